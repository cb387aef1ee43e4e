import Derived.Test.YtkendajmnmchoaaGreatM14

/- Tables: Solve. -/
set_option linter.unusedVariables false
set_option linter.unusedSimpArgs false
set_option maxRecDepth 100000
namespace Go.Proofs.YtkendajmnmchoaaGreat
open Go.RowKit Go.Shelf
attribute [local go_sem ↓] Go.wp_at_zero Go.wp_at_succ

theorem OutRats.weaken {E : Elem} {w : World} {P : Nat → Prop} {lo lo' : Nat} {v : Value} {l : List Rat} (h : OutRats E w P lo v l) (hl : lo' ≤ lo) : OutRats E w P lo' v l := by
  obtain ⟨es, h1, h2, h3, h4⟩ := h
  exact ⟨es, h1, ownsRow_weaken h2 hl, h3, h4⟩
/-- what Solve answers -/
def SolvePost (w : World) (n : Nat) (t : List (List Rat)) (b : List Rat) (K : Nat) (e : Ending) (w' : World) : Prop :=
  ∃ v o, e = .returned (.tuple #[v, .bool o]) ∧ Later w w' ∧ ((o = false ∧ v = .slice none 0 0 ∧ SingF n (ent t)) ∨
    (o = true ∧ ∃ x : List Rat, x.length = n ∧ OutRats EOwn w' (fun b => w.heap.size ≤ b) w.heap.size v x ∧ (∀ q ∈ x, Sized q (K + 1)) ∧ SolF n (ent t) (fun i => b.getD i 0) (fun i => x.getD i 0) ∧ ¬ SingF n (ent t)))

set_option maxHeartbeats 16000000 in
theorem solve_calls (w : World) (va vb : Value) (t : List (List Rat)) (b : List Rat) (k n : Nat) (ha : Tab (ERaw k) w va t) (hb : Rats (ERaw k) w vb b) (hn : t.length = n) (hbl : b.length = n) (hrect : ∀ row ∈ t, row.length = n) (hn9 : n ≤ 100000) (hk : grow k n ≤ 10000000) :
    Calls Tryz.prog 13 #[va, vb] w (SolvePost w n t b (grow k n)) := by
  have hga : ∀ c, c ≤ n → grow k c ≤ 10000000 := fun c hc => Nat.le_trans (grow_mono hc) hk
  have HE := hide (Tab.map (E' := EOn (fun b => b < w.heap.size) (ERaw k)) ha fun row _ v q _ h => On.rawR h)
  have HA := hide ha; have HB := hide hb; have HRECT := hide hrect; have HGA := hide hga
  have hu : rectB t n = true := by unfold rectB; rw [List.all_eq_true]; intro x hx; simpa using hrect x hx
  have HU := hide hu
  have HL2 : Hid (∀ row ∈ t, row.length ≤ 1000000000) := hide (fun row hrow => by rw [hrect row hrow]; omega)
  have HG0 := hide (good_start hn hbl hrect)
  have HAL : Hid ((augT t b).length = n) := hide (by unfold augT; rw [List.length_zipWith]; omega)
  have HTL := hide hn; have HBL := hide hbl
  obtain ⟨A0, nt, ct, rfl, hnt, -, -, -⟩ := ha.form
  obtain ⟨B0, nb, cb, rfl, hnb, -⟩ := hb.form
  have e1 : nt = n := by omega
  have e2 : nb = n := by omega
  clear ha hb hn hbl hrect hga hu hnt hnb hk
  subst e1 e2
  have t1 : ((nb : Int) != nb) = false := by simp
  go_enter Tryz.func13, Tryz.ntmps13
  go_wp2_with fail
  refine (rect_calls _ _ t (ERaw k) ERaw.later HA.out nb (by rw [HTL.out]; omega) HL2.out true HU.out).mono ?_
  rintro e w1 ⟨rfl, b1'⟩
  go_wp2_with fail
  go_loopw [7, 29] (fun out i wr => ∃ j : Nat, j ≤ nb ∧ i = .int .i64 (j : Int) ∧ OutTab (ERaw k) wr (fun _ => True) w.heap.size out ((augT t b).take j) ∧ Later w wr) (fun _ i _ => (nb - intOf i).toNat)
  case atStart => exact ⟨0, by omega, rfl, OutTab.nil _ _ _ _, b1'⟩
  case round =>
    obtain ⟨j, hj, rfl, hout, hL⟩ := hrel
    by_cases hjn : j < nb
    · obtain ⟨row, hrj⟩ : ∃ row, t[j]? = some row := ⟨t[j]'(by have := HTL.out; omega), List.getElem?_eq_getElem _⟩
      obtain ⟨x, hxj⟩ : ∃ x, b[j]? = some x := ⟨b[j]'(by have := HBL.out; omega), List.getElem?_eq_getElem _⟩
      obtain ⟨b0, off0, A5, n5, c5, rfl, z0, hrow⟩ := (HE.out.later EOn.later hL).at_ hrj
      obtain ⟨b1, off1, sx, A1, n1, c1, sx', A2, n2, c2, rfl, x1, x2, x3, x4, ex⟩ := HB.out.at_ hxj
      have HZ : Hid ((augT t b).take (j+1) = (augT t b).take j ++ [row ++ [x]]) := hide (by rw [List.take_add_one, aug_at, hrj, hxj]; rfl)
      have HROW : Hid (Rats (EOn (fun b => b < w.heap.size) (ERaw k)) wr (.slice A5 n5 c5) row) := hide hrow
      have hrowl : row.length = nb := HRECT.out row (List.mem_of_getElem? hrj)
      have HX : Hid (On wr (fun b => b < w.heap.size) (fun W => ERaw k W (.agg #[.bool sx, .slice A1 n1 c1, .bool sx', .slice A2 n2 c2]) x)) := hide ((On.rawR (show RawR w (.agg #[.bool sx, .slice A1 n1 c1, .bool sx', .slice A2 n2 c2]) x k from ex)).later hL)
      have HS : Hid (∀ w', Later w w' → w'.cell? ⟨b1, off1 + j * 4, none⟩ = some (.bool sx) ∧ w'.cell? ⟨b1, off1 + j * 4 + 1, none⟩ = some (.slice A1 n1 c1) ∧ w'.cell? ⟨b1, off1 + j * 4 + 2, none⟩ = some (.bool sx') ∧ w'.cell? ⟨b1, off1 + j * 4 + 3, none⟩ = some (.slice A2 n2 c2)) := hide fun w' hb => ⟨Later.cell hb x1, Later.cell hb x2, Later.cell hb x3, Later.cell hb x4⟩
      have hblt := hout.lt
      have HOUT : Hid (OutTab (ERaw k) wr (fun _ => True) w.heap.size u7 ((augT t b).take j)) := hide hout
      have HL : Hid (Later w wr) := hide hL
      have hj0 : (0 : Int) ≤ (j : Int) := by omega
      have hj1 : (j : Int) < nb := by omega
      have hln : ((augT t b).take j).length ≤ 3000000000 := by rw [List.length_take]; omega
      have hszw : w.heap.size ≤ wr.heap.size := hL.size
      have hszd : wr.drew.heap.size = wr.heap.size := rfl
      have hmx : Tryz.prog.follows .mixedOrders = true := by kernel_rfl
      clear hrow hrj hxj ex hout hL x1 x2 x3 x4
      go_upto_region 8 with fail
      refine wp_region_N (fun w' => w'.cell? ⟨b1, off1 + j * 4, none⟩ = some (.bool sx) ∧ w'.cell? ⟨b1, off1 + j * 4 + 1, none⟩ = some (.slice A1 n1 c1) ∧ w'.cell? ⟨b1, off1 + j * 4 + 2, none⟩ = some (.bool sx') ∧ w'.cell? ⟨b1, off1 + j * 4 + 3, none⟩ = some (.slice A2 n2 c2)) [] hmx (HS.out _ HL.out.drew) (fun hHeld => ?_)
      refine wpAnyN_take (i := 0) (oi := _) (v := ?_) rfl (by kernel_rfl) (by kernel_rfl) (by kernel_rfl) (by kernel_rfl) (fun _ _ _ h => h) (Or.inl ⟨by rfl, ?_⟩) (by assumption) ?_
      rotate_left
      · intro w hSw; (try dsimp only at hSw); go_simp
        first | done | with_reducible rfl
      try simp only [Act.put, List.setIfInBounds_toArray, List.set_cons_zero, List.set_cons_succ]
      refine wpAnyN_take (i := 1) (oi := _) (v := ?_) rfl (by kernel_rfl) (by kernel_rfl) (by kernel_rfl) (by kernel_rfl) (fun _ _ _ h => h) (Or.inl ⟨by rfl, ?_⟩) (by assumption) ?_
      rotate_left
      · intro w hSw; (try dsimp only at hSw); go_simp
        first | done | with_reducible rfl
      try simp only [Act.put, List.setIfInBounds_toArray, List.set_cons_zero, List.set_cons_succ]
      refine wpAnyN_take (i := 3) (oi := _) (v := ?_) rfl (by kernel_rfl) (by kernel_rfl) (by kernel_rfl) (by kernel_rfl) (fun _ _ _ h => h) (Or.inl ⟨by rfl, ?_⟩) (by assumption) ?_
      rotate_left
      · intro w hSw; (try dsimp only at hSw); go_simp
        first | done | with_reducible rfl
      try simp only [Act.put, List.setIfInBounds_toArray, List.set_cons_zero, List.set_cons_succ]
      refine wpAnyN_take (i := 4) (oi := _) (v := ?_) rfl (by kernel_rfl) (by kernel_rfl) (by kernel_rfl) (by kernel_rfl) (fun _ _ _ h => h) (Or.inl ⟨by rfl, ?_⟩) (by assumption) ?_
      rotate_left
      · intro w hSw; (try dsimp only at hSw); go_simp
        first | done | with_reducible rfl
      try simp only [Act.put, List.setIfInBounds_toArray, List.set_cons_zero, List.set_cons_succ]
      refine wpAnyN_take (i := 5) (oi := _) (v := ?_) rfl (by kernel_rfl) (by kernel_rfl) (by kernel_rfl) (by kernel_rfl) (fun _ _ _ h => h) (Or.inl ⟨by rfl, ?_⟩) (by assumption) ?_
      rotate_left
      · intro w hSw; (try dsimp only at hSw); go_simp
        first | done | with_reducible rfl
      try simp only [Act.put, List.setIfInBounds_toArray, List.set_cons_zero, List.set_cons_succ]
      refine wpAnyN_take (i := 6) (oi := _) (v := ?_) rfl (by kernel_rfl) (by kernel_rfl) (by kernel_rfl) (by kernel_rfl) (fun _ _ _ h => h) (Or.inl ⟨by rfl, ?_⟩) (by assumption) ?_
      rotate_left
      · intro w hSw; (try dsimp only at hSw); go_simp
        first | done | with_reducible rfl
      try simp only [Act.put, List.setIfInBounds_toArray, List.set_cons_zero, List.set_cons_succ]
      refine wpAnyN_ready (rs := [2, 7]) (by kernel_rfl) (by simp) ?_
      refine AllReadyN.held rfl (by rfl) (fun K hK => ?_) ?_
      · go_simp
        (with_reducible refine (clone_calls _ _ row (ERaw k) (fun b => b < w.heap.size) (HROW.out.later EOn.later (Later.refl wr).drew) (by omega)).mono ?_)
        rintro e w2 ⟨v2, rfl, o2, b2⟩
        have kA : Later wr w2 := Later.trans (Later.refl wr).drew b2
        have hlt2 : ∀ kk, v2.ownBlock = some kk → wr.heap.size ≤ kk ∧ kk < w2.heap.size := fun kk h => ⟨Nat.le_trans (Later.size_le (Later.refl wr).drew) (o2.lt kk h).1, (o2.lt kk h).2⟩
        have O2 := hide o2
        clear o2
        refine hK.out _ _ ?_ (fun hHeld => ?_)
        · exact HS.out _ (HL.out.trans kA)
        clear hK K
        try simp only [Act.put, List.setIfInBounds_toArray, List.set_cons_zero, List.set_cons_succ]
        refine wpAnyN_ready (rs := [7]) (by kernel_rfl) (by simp) ?_
        refine AllReadyN.held rfl (by rfl) (fun K hK => ?_) AllReadyN.nil
        go_simp
        refine hK.out _ _ ?_ (fun hHeld => ?_)
        · exact HS.out _ (HL.out.trans (kA.alloc _))
        clear hK K
        try simp only [Act.put, List.setIfInBounds_toArray, List.set_cons_zero, List.set_cons_succ]
        refine wpAnyN_ready (rs := [8]) (by kernel_rfl) (by simp) ?_
        refine AllReadyN.held rfl (by rfl) (fun K hK => ?_) AllReadyN.nil
        refine wp_append_rat _ _ rfl (by rfl) (O2.out.later ((Later.refl _).alloc _)) (by rfl) (Row.new w2 _ _) ((On.mono HX.out (fun b hb hlt => ⟨hb, fun e => by have := (hlt2 _ e.symm).1; omega⟩)).later (kA.alloc _)) (by omega) (Nat.le_trans (Later.size_le b2) (Later.size_le ((Later.refl _).alloc _))) ?_
        intro v8 w8 hout8 hg8
        have kB : Later wr w8 := Later.grown (kA.alloc _) hg8 (fun k hk => by have := (hlt2 k hk).1; omega)
        obtain ⟨A8, n8, c8, rfl, -⟩ := hout8.rats.now.form
        have HOUT8 := hide ((hout8.rats).mono (P' := fun b => b < w.heap.size ∨ wr.heap.size ≤ b) (fun b hb hlt => hb.imp id (fun h => Nat.le_trans (Later.size_le (Later.refl wr).drew) h)))
        clear hout8 hg8
        refine hK.out _ _ ?_ (fun hHeld => ?_)
        · exact HS.out _ (HL.out.trans kB)
        clear hK K
        try simp only [Act.put, List.setIfInBounds_toArray, List.set_cons_zero, List.set_cons_succ]
        refine wpAnyN_ready (rs := [9]) (by kernel_rfl) (by simp) ?_
        refine AllReadyN.held rfl (by rfl) (fun K hK => ?_) AllReadyN.nil
        go_simp
        refine hK.out _ _ ?_ (fun hHeld => ?_)
        · exact HS.out _ (HL.out.trans (kB.alloc _))
        clear hK K
        try simp only [Act.put, List.setIfInBounds_toArray, List.set_cons_zero, List.set_cons_succ]
        refine wpAnyN_ready (rs := [10]) (by kernel_rfl) (by simp) ?_
        refine AllReadyN.held rfl (by rfl) (fun K hK => ?_) AllReadyN.nil
        refine wp_append_row _ _ rfl (by rfl) (HOUT.out.later ((kB.alloc _))) (by rfl) (Row.new w8 _ _) ((HOUT8.out.mono (fun b hb hlt => ⟨trivial, fun e => by have := hblt _ e.symm; rcases hb with hb | hb <;> omega⟩)).later ((Later.refl _).alloc _)) hln (by rw [World.size_alloc]; have := Later.size_le kB; omega) ?_
        intro v10 w10 hout10 hg10
        have HOUT10 := hide hout10
        have kC : Later w w10 := Later.grown (HL.out.trans (kB.alloc _)) hg10 (fun k hk => by have := (hblt k hk).1; omega)
        clear hout10 hg10
        refine hK.out _ _ ?_ (fun hHeld => ?_)
        · exact HS.out _ kC
        clear hK K
        try simp only [Act.put, List.setIfInBounds_toArray, List.set_cons_zero, List.set_cons_succ]
        refine wpAnyN_take (i := 11) (oi := _) (v := ?_) rfl (by kernel_rfl) (by kernel_rfl) (by kernel_rfl) (by kernel_rfl) (fun _ _ _ h => h) (Or.inl ⟨by rfl, ?_⟩) (by assumption) ?_
        rotate_left
        · intro w hSw; (try dsimp only at hSw); go_simp
          first | done | with_reducible rfl
        try simp only [Act.put, List.setIfInBounds_toArray, List.set_cons_zero, List.set_cons_succ]
        refine wpAnyN_done (by kernel_rfl) ?_ _
        have HO : Hid (OutTab (ERaw k) w10 (fun _ => True) w.heap.size v10 ((augT t b).take (j+1))) := hide (by rw [HZ.out]; exact HOUT10.out)
        have KC := hide kC
        clear hHeld kA kB kC
        go_wp2_with fail
        exact ⟨⟨j+1, by omega, by go_num, HO.out, KC.out⟩, by simp [intOf]; omega⟩
      refine AllReadyN.held rfl (by rfl) (fun K hK => ?_) AllReadyN.nil
      go_simp
      refine hK.out _ _ ?_ (fun hHeld => ?_)
      · exact HS.out _ (HL.out.trans ((Later.refl wr).alloc _).drew)
      clear hK K
      try simp only [Act.put, List.setIfInBounds_toArray, List.set_cons_zero, List.set_cons_succ]
      refine wpAnyN_ready (rs := [2]) (by kernel_rfl) (by simp) ?_
      refine AllReadyN.held rfl (by rfl) (fun K hK => ?_) AllReadyN.nil
      go_simp
      (with_reducible refine (clone_calls _ _ row (ERaw k) (fun b => b < w.heap.size) (HROW.out.later EOn.later ((Later.refl wr).alloc _).drew) (by omega)).mono ?_)
      rintro e w2 ⟨v2, rfl, o2, b2⟩
      have kA : Later wr w2 := Later.trans ((Later.refl wr).alloc _).drew b2
      have hlt2 : ∀ kk, v2.ownBlock = some kk → wr.heap.size ≤ kk ∧ kk < w2.heap.size := fun kk h => ⟨Nat.le_trans (Later.size_le ((Later.refl wr).alloc _).drew) (o2.lt kk h).1, (o2.lt kk h).2⟩
      have O2 := hide o2
      clear o2
      refine hK.out _ _ ?_ (fun hHeld => ?_)
      · exact HS.out _ (HL.out.trans kA)
      clear hK K
      try simp only [Act.put, List.setIfInBounds_toArray, List.set_cons_zero, List.set_cons_succ]
      refine wpAnyN_ready (rs := [8]) (by kernel_rfl) (by simp) ?_
      refine AllReadyN.held rfl (by rfl) (fun K hK => ?_) AllReadyN.nil
      refine wp_append_rat _ _ rfl (by rfl) (O2.out) (by rfl) ((Row.new wr _ _).drew.later b2) ((On.mono HX.out (fun b hb hlt => ⟨hb, fun e => by have := (hlt2 _ e.symm).1; omega⟩)).later kA) (by omega) (Later.size_le b2) ?_
      intro v8 w8 hout8 hg8
      have kB : Later wr w8 := Later.grown kA hg8 (fun k hk => by have := (hlt2 k hk).1; omega)
      obtain ⟨A8, n8, c8, rfl, -⟩ := hout8.rats.now.form
      have HOUT8 := hide ((hout8.rats).mono (P' := fun b => b < w.heap.size ∨ wr.heap.size ≤ b) (fun b hb hlt => hb.imp id (fun h => Nat.le_trans (Later.size_le ((Later.refl wr).alloc _).drew) h)))
      clear hout8 hg8
      refine hK.out _ _ ?_ (fun hHeld => ?_)
      · exact HS.out _ (HL.out.trans kB)
      clear hK K
      try simp only [Act.put, List.setIfInBounds_toArray, List.set_cons_zero, List.set_cons_succ]
      refine wpAnyN_ready (rs := [9]) (by kernel_rfl) (by simp) ?_
      refine AllReadyN.held rfl (by rfl) (fun K hK => ?_) AllReadyN.nil
      go_simp
      refine hK.out _ _ ?_ (fun hHeld => ?_)
      · exact HS.out _ (HL.out.trans (kB.alloc _))
      clear hK K
      try simp only [Act.put, List.setIfInBounds_toArray, List.set_cons_zero, List.set_cons_succ]
      refine wpAnyN_ready (rs := [10]) (by kernel_rfl) (by simp) ?_
      refine AllReadyN.held rfl (by rfl) (fun K hK => ?_) AllReadyN.nil
      refine wp_append_row _ _ rfl (by rfl) (HOUT.out.later ((kB.alloc _))) (by rfl) (Row.new w8 _ _) ((HOUT8.out.mono (fun b hb hlt => ⟨trivial, fun e => by have := hblt _ e.symm; rcases hb with hb | hb <;> omega⟩)).later ((Later.refl _).alloc _)) hln (by rw [World.size_alloc]; have := Later.size_le kB; omega) ?_
      intro v10 w10 hout10 hg10
      have HOUT10 := hide hout10
      have kC : Later w w10 := Later.grown (HL.out.trans (kB.alloc _)) hg10 (fun k hk => by have := (hblt k hk).1; omega)
      clear hout10 hg10
      refine hK.out _ _ ?_ (fun hHeld => ?_)
      · exact HS.out _ kC
      clear hK K
      try simp only [Act.put, List.setIfInBounds_toArray, List.set_cons_zero, List.set_cons_succ]
      refine wpAnyN_take (i := 11) (oi := _) (v := ?_) rfl (by kernel_rfl) (by kernel_rfl) (by kernel_rfl) (by kernel_rfl) (fun _ _ _ h => h) (Or.inl ⟨by rfl, ?_⟩) (by assumption) ?_
      rotate_left
      · intro w hSw; (try dsimp only at hSw); go_simp
        first | done | with_reducible rfl
      try simp only [Act.put, List.setIfInBounds_toArray, List.set_cons_zero, List.set_cons_succ]
      refine wpAnyN_done (by kernel_rfl) ?_ _
      have HO : Hid (OutTab (ERaw k) w10 (fun _ => True) w.heap.size v10 ((augT t b).take (j+1))) := hide (by rw [HZ.out]; exact HOUT10.out)
      have KC := hide kC
      clear hHeld kA kB kC
      go_wp2_with fail
      exact ⟨⟨j+1, by omega, by go_num, HO.out, KC.out⟩, by simp [intOf]; omega⟩

    · obtain rfl : j = nb := by omega
      rw [List.take_of_length_le (by rw [HAL.out]; exact Nat.le_refl _)] at hout
      have HOUT := hide hout
      clear hout
      go_wp2_with fail
      go_loopw [7, 47] (fun v i wr => ∃ c : Nat, c ≤ j ∧ i = .int .i64 (c : Int) ∧ ∃ W, Hid (Good j t b c W) ∧ Hid (OutTab (ERaw (grow k c)) wr (fun _ => True) w.heap.size v W) ∧ Hid (0 < c → OutTab EOwn wr (fun b => w.heap.size ≤ b) w.heap.size v W) ∧ Hid (∀ row ∈ W, ∀ q ∈ row, Sized q (grow k c + 1)) ∧ Later w wr) (fun _ i _ => (j - intOf i).toNat)
      case atStart => exact ⟨0, by omega, rfl, _, HG0, HOUT, hide (fun h => by omega), hide HOUT.out.tab.now.sized, hL⟩
      case round =>
        clear HOUT hL
        obtain ⟨c, hc, rfl, W, hgood, hout, hown, hszd, hL⟩ := hrel
        by_cases hcn : c < j
        · have hWl := hgood.out.len
          have hWr := hgood.out.rect
          obtain ⟨g, cap, cs, e9, hlo, hcap, hmx, hrow, hcs⟩ := hout.out.open_ (by omega)
          rw [hWl] at e9 hcap
          subst e9
          have HT := hide hout.out.tab.now
          have HWL := hide hWl; have HWR := hide hWr; have HROW := hide hrow; have HCS := hide hcs
          have hk9 := HGA.out c hc
          have hk9' := HGA.out (c+1) (by omega)
          have hc0 : (0 : Int) ≤ (c : Int) := by omega
          have hc1 : (c : Int) < j := by omega
          have hc1' : (c : Int) ≤ j := by omega
          have hcj : (j : Int) ≤ cap := by omega
          have hglt := hrow.lt
          have hm9 : j ≤ maxLen := by omega
          clear hrow hcs hWl hWr
          go_wp2_with fail
          have HB1 : Hid (Later wr (wr.alloc (Obj.cells #[Value.int IntKind.i64 (c : Int)] 3))) := hide ((Later.refl wr).alloc _)
          have HBX : Hid (Row (wr.alloc (Obj.cells #[Value.int IntKind.i64 (c : Int)] 3)) wr.heap.size 3 [.int .i64 (c : Int)]) := hide (Row.new wr _ _)
          refine (idxf1_calls _ _ (W.drop c) (ERaw (grow k c)) ERaw.later ((by have := HT.out.drop (c := c) hc; rw [Nat.zero_add] at this; exact this.later ERaw.later HB1.out)) (by rw [List.length_drop, HWL.out]; omega) _ ⟨fun _ _ => by kernel_rfl⟩ wr.heap.size (fun row => decide (row.getD c 0 ≠ 0))
            (fun W' rv row hW hr hm => by
              have hrl := HWR.out row (List.mem_of_mem_drop hm)
              exact solve1_calls W' rv row (grow k c) hr wr.heap.size c (HBX.out.later hW) (row.getD c 0) (by rw [List.getD_eq_getElem?_getD, List.getElem?_eq_getElem (by omega)]; rfl) (by omega) (by omega) _ rfl)).mono ?_
          rintro e w2 ⟨z, rfl, hz, b2⟩
          rcases hz with ⟨rfl, hz⟩ | ⟨i, row, rfl, hi, hpr, -⟩
          · have HS : Hid (SingF j (ent t)) := hide (good_stuck hgood.out hcn fun row hrow => by simpa using hz row hrow)
            have HL2' := hide ((hL.trans HB1.out).trans b2)
            clear hz
            go_wp2_with fail
            go_ret2
            exact ⟨_, _, rfl, HL2'.out, .inl ⟨rfl, rfl, HS.out⟩⟩
          · rw [List.getElem?_drop] at hi
            have hij : c + i < j := by have := (List.getElem?_eq_some_iff.1 hi).1; rw [HWL.out] at this; exact this
            have hpr' : ent W (c + i) c ≠ 0 := by
              unfold ent
              rw [List.getD_eq_getElem?_getD (l := W), hi]
              simpa using hpr
            have HPR := hide hpr'
            obtain ⟨Ax, nx, cx', hxc⟩ := HCS.out c (by rw [HWL.out]; exact hcn)
            obtain ⟨Ay, ny, cy', hyc⟩ := HCS.out (c+i) (by rw [HWL.out]; exact hij)
            have hL2 := HB1.out.trans b2
            have hrw := HROW.out.later hL2
            have hbx := HBX.out.later b2
            have k0 := hbx.cell (i := 0) rfl
            have k1 := hrw.cell hxc
            have k2 := hrw.cell hyc
            have f1 := hrw.frozen c
            have f2 := hrw.frozen (c+i)
            have hrs := (hrw.set_ c (.slice Ay ny cy')).drew
            have k3 := hrs.cell (i := c+i) (u := .slice Ay ny cy') (by
              rw [List.getElem?_set]
              split
              · rw [if_pos (List.getElem?_eq_some_iff.1 hxc).1]
              · exact hyc)
            have f3 := hrs.frozen (c+i)
            have oo : Only g w2 ((w2.setCell ⟨g, c, none⟩ (.slice Ay ny cy')).setCell ⟨g, c+i, none⟩ (.slice Ax nx cx')) := (Only.one g w2 c _).set (c+i) _
            have HSW := hide ((hout.out.later hL2).swap hrw hxc hyc (by rw [HWL.out]; exact hcn) (by rw [HWL.out]; exact hij))
            have HBX2 := hide (hbx.only oo (by omega))
            have HLS := hide ((hL.trans hL2).only oo hlo)
            have t3 : decide ((i : Int) < 0) = false := by simp
            have hi0 : (0 : Int) ≤ (c : Int) + i := by omega
            have hi1 : (c : Int) + i < j := by omega
            have hne : g ≠ wr.heap.size := by omega
            have hcg : ((c : Int) + i).toNat = c + i := by omega
            clear hi hpr hpr' hxc hyc hrw hbx oo hrs
            go_wp2_with fail
            go_region
            obtain ⟨ws, hws⟩ : ∃ ws, ws = ((w2.setCell ⟨g, c, none⟩ (.slice Ay ny cy')).setCell ⟨g, c+i, none⟩ (.slice Ax nx cx')) := ⟨_, rfl⟩
            rw [← hws] at HSW HBX2 HLS ⊢
            have kb := HBX2.out.drew.cell (i := 0) rfl
            have hSWL : (swapT W c (c+i)).length = j := by rw [swap_len, HWL.out]
            have hSWR : ∀ row ∈ swapT W c (c+i), row.length = j + 1 := swap_rect (by rw [HWL.out]; exact hcn) (by rw [HWL.out]; exact hij) HWR.out
            have hSWG : ((swapT W c (c+i)).getD c []).length = j + 1 := hSWR _ (by rw [List.getD_eq_getElem?_getD, List.getElem?_eq_getElem (by omega)]; exact List.getElem_mem _)
            have hSWP : ((swapT W c (c+i)).getD c []).getD c 0 ≠ 0 := by
              have h := swap_ent (t := W) (i := c) (j := c+i) (by rw [HWL.out]; exact hcn) (by rw [HWL.out]; exact hij) c c
              have hp := HPR.out
              have e8 : ent (swapT W c (c+i)) c c = ent W (c+i) c := by
                rw [h]
                split
                · rename_i e; rw [← e]
                · rw [if_pos rfl]
              rw [← e8] at hp
              exact hp
            have HSWL := hide hSWL; have HSWR := hide hSWR; have HSWG := hide hSWG; have HSWP := hide hSWP
            have HSZ2 : Hid (∀ row ∈ swapT W c (c+i), ∀ q ∈ row, Sized q (grow k c + 1)) := hide fun row hrow => hszd.out row (swap_mem (by rw [HWL.out]; exact hcn) (by rw [HWL.out]; exact hij) hrow)
            have HGN := hide (good_step hgood.out hcn (Nat.le_add_right c i) hij HPR.out)
            clear k0 k1 k2 k3 f1 f2 f3 hSWL hSWR hSWG hSWP hws
            go_wp2_with fail
            refine (pivot_calls _ _ (swapT W c (c+i)) (grow k c) c c ((HSW.out.later (Later.refl ws).drew).tab.now) (by rw [HSWL.out]; exact hcn) (by rw [HSWL.out]; omega) (fun row hrow => by rw [HSWG.out]; exact HSWR.out row hrow) (by rw [HSWG.out]; omega) (by rw [HSWG.out]; omega) HSWP.out hk9).mono ?_
            rintro e w4 ⟨v4, o4, rfl, ⟨ht4, rfl⟩, b4⟩
            have HL4 := hide (HLS.out.drew.trans b4)
            have hsz4 : ∀ row ∈ pivL (swapT W c (c+i)) c c, ∀ q ∈ row, Sized q (grow k (c+1) + 1) := fun row hrow q hq => (sized_pivL HSZ2.out (by rw [HSWL.out]; exact hcn) (fun row hrow => by rw [HSWR.out row hrow]; omega) row hrow q hq).mono (by show 4 * grow k c + 9 ≤ 4 * grow k c + 9 + 1; omega)
            have hsz5 : ∀ row ∈ pivL (swapT W c (c+i)) c c, ∀ q ∈ row, Sized q (grow k (c+1)) := sized_pivL HSZ2.out (by rw [HSWL.out]; exact hcn) (fun row hrow => by rw [HSWR.out row hrow]; omega)
            have hs4 : w.heap.size ≤ ws.drew.heap.size := HLS.out.drew.size
            have HT4 : Hid (OutTab EOwn w4 (fun b => w.heap.size ≤ b) w.heap.size v4 (pivL (swapT W c (c+i)) c c)) := hide ((ht4.mono (fun b hb _ => Nat.le_trans hs4 hb)).weaken hs4)
            have HT5 : Hid (OutTab (ERaw (grow k (c+1))) w4 (fun _ => True) w.heap.size v4 (pivL (swapT W c (c+i)) c c)) := hide ((HT4.out.mono (fun b hb _ => trivial)).map fun W' v q ⟨row, hr, hq⟩ he => OwnR.raw (B := 0) he (hsz5 row hr q hq))
            have HZ4 := hide hsz4
            clear ht4 hsz4 hsz5 b4 kb
            go_wp2_with fail
            exact ⟨⟨c+1, by omega, by go_num, _, HGN, HT5, hide fun _ => HT4.out, HZ4, HL4.out⟩, by simp [intOf]; omega⟩
        · obtain rfl : c = j := by omega
          have hWl := hgood.out.len
          have hEO : OutTab EOwn wr (fun b => w.heap.size ≤ b) w.heap.size u7 W := by
            rcases Nat.eq_zero_or_pos c with h0 | h0
            · have hW0 : W = [] := List.eq_nil_of_length_eq_zero (by omega)
              rw [hW0]
              have := hout.out
              rw [hW0] at this
              exact this.empty
            · exact hown.out h0
          obtain ⟨B3, hB3⟩ : ∃ B3, B3 = wr.heap.size := ⟨_, rfl⟩
          have HTE := hide ((hEO.tabE.map (E' := EOn (fun b => w.heap.size ≤ b ∧ b < B3) EOwn) fun row _ v q _ h => On.mono h fun b hb hlt => ⟨hb, by omega⟩))
          obtain ⟨A7, n7, c7, rfl, hn7, -, -, -⟩ := HTE.out.form
          rw [hWl] at hn7
          subst hn7
          have HWL := hide hWl
          have HGD := hide hgood.out.rect
          have HSOL := hide (good_done hgood.out)
          have HSX : Hid (∀ q ∈ lastCol n7 W, Sized q (grow k n7 + 1)) := hide fun q hq => by
            unfold lastCol at hq
            rw [List.mem_map] at hq
            obtain ⟨row, hr, rfl⟩ := hq
            have hrl := hgood.out.rect row hr
            exact hszd.out row hr _ (by rw [List.getD_eq_getElem?_getD, List.getElem?_eq_getElem (by omega)]; exact List.getElem_mem _)
          have HLL : Hid ((lastCol n7 W).length = n7) := hide (by unfold lastCol; rw [List.length_map, hWl])
          have HL3 := hide hL
          have hszB : w.heap.size ≤ B3 := by rw [hB3]; exact hL.size
          have HB3 : Hid (B3 = wr.heap.size) := hide hB3
          clear hgood hout hown hszd hL hEO hWl hB3
          go_wp2_with fail
          obtain ⟨w3, hw3⟩ : ∃ w3, w3 = wr := ⟨_, rfl⟩
          rw [← hw3] at HTE HL3 HB3 ⊢
          clear hw3
          go_loopw [12, 85] (fun out i wr => ∃ m : Nat, m ≤ n7 ∧ i = .int .i64 (m : Int) ∧ OutRats EOwn wr (fun b => w.heap.size ≤ b) B3 out ((lastCol n7 W).take m) ∧ Later w3 wr) (fun _ i _ => (n7 - intOf i).toNat)
          case atStart => exact ⟨0, by omega, rfl, OutRats.nil _ _ _ _, Later.refl _⟩
          case round =>
            obtain ⟨m, hm, rfl, hout, hL⟩ := hrel
            by_cases hmn : m < n7
            · obtain ⟨row, hrm⟩ : ∃ row, W[m]? = some row := ⟨W[m]'(by rw [HWL.out]; exact hmn), List.getElem?_eq_getElem _⟩
              have hrl := HGD.out row (List.mem_of_getElem? hrm)
              obtain ⟨q, hq⟩ : ∃ q, row[n7]? = some q := ⟨row[n7]'(by omega), List.getElem?_eq_getElem _⟩
              obtain ⟨b0, off0, A5, n5, c5, rfl, z0, hrow⟩ := (HTE.out.later EOn.later hL).at_ hrm
              have hn5 : n5 = row.length := by obtain ⟨_, _, e, _⟩ := hrow; injection e
              obtain ⟨b1, off1, sx, A1, n1, c1, sx', A2, n2, c2, rfl, x1, x2, x3, x4, ex⟩ := hrow.at_ hq
              have HZ : Hid ((lastCol n7 W).take (m+1) = (lastCol n7 W).take m ++ [q]) := hide (by
                unfold lastCol
                rw [← List.map_take, ← List.map_take, List.take_add_one, hrm, List.map_append]
                simp [List.getD_eq_getElem?_getD, hq])
              have hblt := hout.lt
              have HEL : Hid (∀ o, On (wr.alloc o) (fun b => w.heap.size ≤ b ∧ some b ≠ u12.ownBlock) (fun W => EOwn W (.agg #[.bool sx, .slice A1 n1 c1, .bool sx', .slice A2 n2 c2]) q)) := hide fun o => On.later (On.mono ex fun b hb hlt => ⟨hb.1, fun e => by have := (hblt _ e.symm).1; omega⟩) ((Later.refl _).alloc _)
              have HOUT : Hid (∀ o, OutRats EOwn (wr.alloc o) (fun b => w.heap.size ≤ b) B3 u12 ((lastCol n7 W).take m)) := hide fun o => hout.later ((Later.refl _).alloc _)
              have HBASE : Hid (∀ o, B3 ≤ (wr.alloc o).heap.size) := hide fun o => by rw [World.size_alloc]; have := hL.size; have := HB3.out; omega
              have hln : ((lastCol n7 W).take m).length ≤ 3000000000 := by rw [List.length_take]; omega
              have hm0 : (0 : Int) ≤ (m : Int) := by omega
              have hm1 : (m : Int) < n7 := by omega
              have hn0 : (0 : Int) ≤ (n7 : Int) := by omega
              have hn1 : (n7 : Int) < n5 := by omega
              have HL := hide hL
              clear hrm hq hrow hn5 ex hout hL hrl
              go_wp2_with (at_builtin; refine wpList_append_rat rfl _ _ rfl rfl (HOUT.out _) rfl (Row.new _ _ [.bool sx, .slice A1 n1 c1, .bool sx', .slice A2 n2 c2]) (HEL.out _) hln (HBASE.out _) ?_; intro v9 w9 hout9 hg9)
              have HO2 : Hid (OutRats EOwn w9 (fun b => w.heap.size ≤ b) B3 v9 ((lastCol n7 W).take (m+1))) := hide (by rw [HZ.out]; exact hout9)
              have hL9 : Later w3 w9 := HL.out.grown ((World.grownBy_alloc _ _ _).trans hg9) fun k hk => by have := (hblt k hk).1; have := HB3.out; omega
              clear hout9 hg9
              go_wp2_with fail
              exact ⟨⟨m+1, by omega, by go_num, HO2.out, hL9⟩, by simp [intOf]; omega⟩
            · obtain rfl : m = n7 := by omega
              rw [List.take_of_length_le (by rw [HLL.out]; exact Nat.le_refl _)] at hout
              have HO := hide hout
              clear hout
              go_wp2_with fail
              go_ret2
              exact ⟨_, _, rfl, HL3.out.trans hL, .inr ⟨rfl, lastCol m W, HLL.out, HO.out.weaken hszB, HSX.out, HSOL.out.1, HSOL.out.2⟩⟩
end Go.Proofs.YtkendajmnmchoaaGreat


/- Tables: what the laws make of numbers; Tables. -/
set_option linter.unusedVariables false
set_option linter.unusedSimpArgs false
set_option maxRecDepth 100000
namespace Go.Proofs.YtkendajmnmchoaaGreat
open Go.RowKit Go.Shelf
attribute [local go_sem ↓] Go.wp_at_zero Go.wp_at_succ

theorem rats_one {E : Elem} {w : World} {g : Nat} {s s' : Bool} {A A' : Option Addr} {n c n' c' : Nat} {p : Rat} (hr : Row w g 32 [.bool s, .slice A n c, .bool s', .slice A' n' c']) (h : E w (.agg #[.bool s, .slice A n c, .bool s', .slice A' n' c']) p) :
    Rats E w (.slice (some ⟨g, 0, none⟩) 1 1) [p] := by
  refine ⟨_, 1, rfl, Nat.le_refl _, by decide, fun i q hi => ?_⟩
  match i, hi with
  | 0, hi => simp at hi; subst hi; exact ⟨g, 0, s, A, n, c, s', A', n', c', rfl, hr.cell rfl, hr.cell rfl, hr.cell rfl, hr.cell rfl, h⟩
  | i+1, hi => simp at hi
theorem rats_two {E : Elem} {w : World} {g : Nat} {s s' r r' : Bool} {A A' B B' : Option Addr} {n c n' c' m d m' d' : Nat} {p q : Rat} (hr : Row w g 32 [.bool s, .slice A n c, .bool s', .slice A' n' c', .bool r, .slice B m d, .bool r', .slice B' m' d'])
    (h : E w (.agg #[.bool s, .slice A n c, .bool s', .slice A' n' c']) p) (k : E w (.agg #[.bool r, .slice B m d, .bool r', .slice B' m' d']) q) :
    Rats E w (.slice (some ⟨g, 0, none⟩) 2 2) [p, q] := by
  refine ⟨_, 2, rfl, Nat.le_refl _, by decide, fun i q hi => ?_⟩
  match i, hi with
  | 0, hi => simp at hi; subst hi; exact ⟨g, 0, s, A, n, c, s', A', n', c', rfl, hr.cell rfl, hr.cell rfl, hr.cell rfl, hr.cell rfl, h⟩
  | 1, hi => simp at hi; subst hi; exact ⟨g, 0, r, B, m, d, r', B', m', d', rfl, hr.cell rfl, hr.cell rfl, hr.cell rfl, hr.cell rfl, k⟩
  | i+2, hi => simp at hi
theorem tab_two {E : Elem} {w : World} {g : Nat} {A B : Option Addr} {n c m d : Nat} {p q : List Rat} (hr : Row w g 35 [.slice A n c, .slice B m d]) (h : Rats E w (.slice A n c) p) (k : Rats E w (.slice B m d) q) :
    Tab E w (.slice (some ⟨g, 0, none⟩) 2 2) [p, q] := by
  refine ⟨_, 2, rfl, Nat.le_refl _, by decide, fun i row hi => ?_⟩
  match i, hi with
  | 0, hi => simp at hi; subst hi; exact ⟨g, 0, A, n, c, rfl, hr.cell rfl, h⟩
  | 1, hi => simp at hi; subst hi; exact ⟨g, 0, B, m, d, rfl, hr.cell rfl, k⟩
  | i+2, hi => simp at hi

set_option maxHeartbeats 1000000 in
theorem lawof_calls (w : World) (n : Int) (h1 : -9223372036854775808 ≤ n) (h2 : n < 9223372036854775808) (q : Rat) (hq : Rat.divInt n 1 = q) :
    Calls Tryz.prog 10 #[.int .i64 n] w (Ret w fun w' v => OwnR w' w.heap.size v q) := by
  obtain ⟨W0, hW0⟩ : ∃ W0, W0 = w.alloc (Obj.cells #[Value.bool false, Value.slice none 0 0, Value.bool false, Value.slice none 0 0] 32) := ⟨_, rfl⟩
  obtain ⟨hb0, r1, hsz0⟩ := boxes1 w [.bool false, .slice none 0 0, .bool false, .slice none 0 0] 32 hW0
  have R1 := hide r1; have B0' := hide hb0; have HW0 := hide hW0
  clear r1 hb0 hW0
  go_enter Tryz.func10, Tryz.ntmps10
  go_wp2_with fail
  rw [← HW0.out]
  refine (qof_calls _ n 1 h1 h2 (by omega) (by omega) (by omega) q hq).mono ?_
  rintro e w1 ⟨v1, ok1, rfl, ⟨o1, rfl⟩, b1⟩
  obtain ⟨s1, P1, q1, e1, P1', q1', e1', rfl, o1⟩ := o1.open_; have O1 := hide o1; clear o1
  have hs1 := b1.size
  have hb2 := b1.alloc (Obj.cells #[Value.bool s1, Value.slice P1 q1 e1, Value.bool false, Value.slice P1' q1' e1'] 32)
  have HR := hide (R1.out.later hb2)
  have hL := hide (B0'.out.trans hb2)
  obtain ⟨d1, d2, d3, d4, d5, d6, d7, d8⟩ := row_cells4 HR.out
  go_wp2_with fail
  refine bodyPost_ret (results_rat rfl rfl (HR.out.four _ _ _ _)) rfl ?_
  have oo := Only.four w.heap.size (w1.alloc (Obj.cells #[Value.bool s1, Value.slice P1 q1 e1, Value.bool false, Value.slice P1' q1' e1'] 32)) (.bool s1) (.slice P1 q1 e1) (.bool false) (.slice P1' q1' e1')
  exact ⟨_, rfl, ((O1.out.later ((Later.refl _).alloc _)).only oo (by omega)).weaken (by omega), hL.out.only oo (Nat.le_refl _)⟩

set_option maxHeartbeats 2000000 in
theorem tsame_calls (w : World) (va vb : Value) (a b : List (List Rat)) (k m : Nat) (ha : Tab EOwn w va a) (hb : Tab EOwn w vb b) (hA : ∀ row ∈ a, ∀ q ∈ row, Sized q k) (hB : ∀ row ∈ b, ∀ q ∈ row, Sized q m) (hk : k ≤ 1000000000) (hm : m ≤ 1000000000) (hla : a.length ≤ 1000000000) (hla2 : ∀ row ∈ a, row.length ≤ 1000000000) (t : Bool) (ht : decide (a = b) = t) :
    Calls Tryz.prog 9 #[va, vb] w (RetV w (.bool t)) := by
  have HA := hide ha; have HB := hide hb; have HT := hide ht; have SA := hide hA; have SB := hide hB; have HL2 := hide hla2
  obtain ⟨A0, na, ca, rfl, hna, -⟩ := ha.form
  obtain ⟨B0, nb, cb, rfl, hnb, -⟩ := hb.form
  have HNA := hide hna; have HNB := hide hnb
  have hla9 : na ≤ 1000000000 := by omega
  by_cases hne : na = nb
  · subst hne
    have t1 : ((na : Int) != na) = false := by simp
    clear ha hb ht hA hB hna hnb hla hla2
    go_enter Tryz.func9, Tryz.ntmps9
    go_wp2_with fail
    go_loopw [5] (fun i wr => ∃ j : Nat, j ≤ na ∧ i = .int .i64 (j : Int) ∧ Hid (a.take j = b.take j) ∧ Later w wr) (fun i _ => (na - intOf i).toNat)
    case atStart => exact ⟨0, by omega, rfl, hide rfl, Later.refl w⟩
    case round =>
      obtain ⟨j, hj, rfl, hpre, hL⟩ := hrel
      by_cases hjn : j < na
      · obtain ⟨x, hx⟩ : ∃ x, a[j]? = some x := ⟨a[j]'(by have := HNA.out; omega), List.getElem?_eq_getElem _⟩
        obtain ⟨y, hy⟩ : ∃ y, b[j]? = some y := ⟨b[j]'(by have := HNB.out; omega), List.getElem?_eq_getElem _⟩
        obtain ⟨b1, off1, A5, n5, c5, rfl, z1, hx1⟩ := (HA.out.later EOwn.later hL).at_ hx
        obtain ⟨b2, off2, A6, n6, c6, rfl, z2, hy1⟩ := (HB.out.later EOwn.later hL).at_ hy
        have HX := hide (hx1.later EOwn.later (Later.refl wr).drew); have HY := hide (hy1.later EOwn.later (Later.refl wr).drew)
        have HXM := hide (List.mem_of_getElem? hx); have HYM := hide (List.mem_of_getElem? hy)
        have HEX := hide hx; have HEY := hide hy; have HL := hide hL.drew
        have HS : Hid (∀ w', Later wr.drew w' → w'.cell? ⟨b1, off1 + j, none⟩ = some (.slice A5 n5 c5) ∧ w'.cell? ⟨b2, off2 + j, none⟩ = some (.slice A6 n6 c6)) := hide fun w' hb => ⟨Later.cell ((Later.refl wr).drew.trans hb) z1, Later.cell ((Later.refl wr).drew.trans hb) z2⟩
        have hj0 : (0 : Int) ≤ (j : Int) := by omega
        have hj1 : (j : Int) < na := by omega
        obtain ⟨u, hu⟩ : ∃ u, decide (x = y) = u := ⟨_, rfl⟩
        have HU := hide hu
        clear hx hy hx1 hy1 hL z1 z2 hu
        go_upto_region 6 with fail
        rename_i K4 hK4
        go_region_held3 (fun w' => w'.cell? ⟨b1, off1 + j, none⟩ = some (.slice A5 n5 c5) ∧ w'.cell? ⟨b2, off2 + j, none⟩ = some (.slice A6 n6 c6))
          (first | exact HS.out _ (Later.refl _) | exact HS.out _ b3)
          (first
            | ((with_reducible refine (lsame_calls _ _ _ x y k m HX.out HY.out (SA.out x HXM.out) (SB.out y HYM.out) hk hm (HL2.out x HXM.out) u HU.out).mono ?_); rintro e w3 ⟨rfl, b3⟩))
        show K4 _ _
        refine hK4 _ _ ?_
        clear hK4
        have hLL := hide (HL.out.trans b3)
        cases u with
        | false =>
          have HF : Hid (t = false) := hide (by
            rw [← HT.out, decide_eq_false_iff_not]
            rintro rfl
            have h1 := HEX.out
            rw [HEY.out] at h1
            injection h1 with h1
            have := HU.out
            simp [h1] at this)
          go_wp2_with fail
          go_ret
          exact ⟨by rw [HF.out]; rfl, hLL.out⟩
        | true =>
          have HP : Hid (a.take (j+1) = b.take (j+1)) := hide (by
            have h1 : x = y := by simpa using HU.out
            rw [List.take_add_one, List.take_add_one, hpre.out, HEX.out, HEY.out, h1])
          go_wp2_with fail
          exact ⟨⟨j+1, by omega, by go_num, HP, hLL.out⟩, by simp [intOf]; omega⟩
      · obtain rfl : j = na := by omega
        have HF : Hid (t = true) := hide (by
          have h1 := hpre.out
          rw [List.take_of_length_le (by rw [← HNA.out]; exact Nat.le_refl _), List.take_of_length_le (by rw [← HNB.out]; exact Nat.le_refl _)] at h1
          rw [← HT.out]; simpa using h1)
        have HL := hide hL
        go_wp2_with fail
        go_ret
        exact ⟨by rw [HF.out]; rfl, HL.out⟩
  · have t1 : ((na : Int) != nb) = true := by rw [bne_iff_ne]; omega
    have HF : Hid (t = false) := hide (by
      rw [← ht, decide_eq_false_iff_not]
      rintro rfl
      omega)
    clear ha hb ht hA hB hna hnb hla hla2
    go_enter Tryz.func9, Tryz.ntmps9
    go_wp2_with fail
    go_ret
    exact ⟨by rw [HF.out]; rfl, Later.refl w⟩
end Go.Proofs.YtkendajmnmchoaaGreat


/- The small numbers that awake asks about. No program is in sight here. -/
set_option linter.unusedVariables false
set_option linter.unusedSimpArgs false
namespace Go.Proofs.YtkendajmnmchoaaGreat
theorem sized_small {q : Rat} (h1 : q.num.natAbs < 2 ^ 32) (h2 : q.den < 2 ^ 32) : Sized q 1 := ⟨length_limbs_le (by simpa using h1), length_limbs_le (by simpa using h2)⟩
theorem sized_0 : Sized 0 1 := sized_small (by decide) (by decide)
theorem sized_1 : Sized 1 1 := sized_small (by decide) (by decide)
theorem sized_2 : Sized 2 1 := sized_small (by decide) (by decide)
theorem sized_3 : Sized 3 1 := sized_small (by decide) (by decide)
theorem sized_m1 : Sized (-1) 1 := sized_small (by decide) (by decide)
theorem sized_m2 : Sized (-2) 1 := sized_small (by decide) (by decide)
theorem sized_half : Sized (1/2) 1 := sized_small (by decide +kernel) (by decide +kernel)
theorem div_0 : Rat.divInt 0 1 = 0 := by decide +kernel
theorem div_1 : Rat.divInt 1 1 = 1 := by decide +kernel
theorem div_2 : Rat.divInt 2 1 = 2 := by decide +kernel
theorem div_3 : Rat.divInt 3 1 = 3 := by decide +kernel
theorem div_m1 : Rat.divInt (-1) 1 = -1 := by decide +kernel
theorem div_m2 : Rat.divInt (-2) 1 = -2 := by decide +kernel
theorem div_half : Rat.divInt 1 2 = 1/2 := by decide +kernel
/-- the table of awake -/
def tA : List (List Rat) := [[2, 1], [1, 1]]
def bA : List Rat := [3, 2]
theorem awk_notsing : ¬ SingF 2 (ent tA) := by
  rintro ⟨z, ⟨k, hk, hz⟩, h⟩
  have h0 := h 0 (by omega)
  have h1 := h 1 (by omega)
  simp [sumTo, ent, tA] at h0 h1
  have e0 : z 0 = 0 := by grind
  have e1 : z 1 = 0 := by grind
  match k, hk, hz with
  | 0, _, hz => exact hz e0
  | 1, _, hz => exact hz e1
theorem awk_sol {x : List Rat} (hl : x.length = 2) (h : SolF 2 (ent tA) (fun i => bA.getD i 0) (fun i => x.getD i 0)) : x = [1, 1] := by
  match x, hl with
  | [a, b], _ =>
    have h0 := h 0 (by omega)
    have h1 := h 1 (by omega)
    simp [sumTo, ent, tA, bA] at h0 h1
    have e0 : a = 1 := by grind
    have e1 : b = 1 := by grind
    rw [e0, e1]
theorem awk_piv : pivL tA 0 0 = [[1, 1/2], [0, 1/2]] := by decide +kernel
theorem awk_dot : dotL [2, 1] [1, 1] = 3 := by decide +kernel
theorem awk_axpy : axpyL [2, 1] [1, 1] (-2) = [0, -1] := by decide +kernel
theorem sized_list1 {l : List Rat} (h : ∀ q ∈ l, q = 0 ∨ q = 1 ∨ q = 2 ∨ q = 3 ∨ q = -1 ∨ q = -2 ∨ q = 1/2) : ∀ q ∈ l, Sized q 1 := by
  intro q hq
  rcases h q hq with rfl | rfl | rfl | rfl | rfl | rfl | rfl
  · exact sized_0
  · exact sized_1
  · exact sized_2
  · exact sized_3
  · exact sized_m1
  · exact sized_m2
  · exact sized_half
end Go.Proofs.YtkendajmnmchoaaGreat
