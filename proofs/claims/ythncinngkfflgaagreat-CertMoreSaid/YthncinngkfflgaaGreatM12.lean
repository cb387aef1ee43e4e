import Derived.Test.YthncinngkfflgaaGreatM11

/- Rows of fractions: zero, pairs. -/
set_option linter.unusedVariables false
set_option linter.unusedSimpArgs false
set_option maxRecDepth 100000
namespace Go.Proofs.YthncinngkfflgaaGreat
open Go.RowKit Go.Shelf
attribute [local go_sem ↓] Go.wp_at_zero Go.wp_at_succ

theorem zipWith_take_ {α β γ : Type} (f : α → β → γ) (a : List α) (b : List β) : List.zipWith f a (b.take a.length) = List.zipWith f a b := by
  induction a generalizing b with
  | nil => simp
  | cons x a ih => cases b with
    | nil => simp
    | cons y b => simp [ih]
theorem rawR_zero (w : World) (k : Nat) : RawR w (.agg #[.bool false, .slice none 0 0, .bool false, .slice none 0 0]) 0 k :=
  ⟨_, _, _, _, _, _, _, _, 0, 0, rfl, rawI_zero w k, rawI_zero w k, by rw [ratOf_not (by omega)]⟩

set_option maxHeartbeats 1000000 in
theorem lzero_calls (w : World) : Calls Tryz.prog 104 #[] w (Ret w fun w' v => OwnR w' w.heap.size v 0) := by
  go_enter Tryz.func104, Tryz.ntmps104
  go_wp2_with fail
  refine (rplain_calls _ _ 0 0 (rawR_zero _ 0) (by omega)).mono ?_
  rintro e w1 ⟨v1, rfl, o1, b1⟩
  obtain ⟨s1, P1, q1, e1, P1', q1', e1', rfl, o1⟩ := o1.open_; have O1 := hide o1; clear o1
  have hL := ((Later.refl w).alloc (Obj.cells #[.bool false, .slice none 0 0, .bool false, .slice none 0 0] 37)).trans b1
  have hrow := ((Row.new w 37 [.bool false, .slice none 0 0, .bool false, .slice none 0 0]).later b1)
  obtain ⟨c0, c1, c2, c3, f0, f1, f2, f3⟩ := row_cells4 hrow
  have HR := hide hrow
  clear hrow
  go_wp2_with fail
  refine bodyPost_ret (results_rat rfl rfl (HR.out.four _ _ _ _)) rfl ?_
  have oo := Only.four w.heap.size w1 (.bool s1) (.slice P1 q1 e1) (.bool false) (.slice P1' q1' e1')
  exact ⟨_, rfl, (O1.out.only oo (by simp)).weaken (by simp), hL.only oo (Nat.le_refl _)⟩

set_option maxHeartbeats 4000000 in
theorem pairs0_calls (w : World) (va vb : Value) (la lb : List Rat) (E1 E2 : Elem) (h1 : ∀ w w' v q, E1 w v q → Later w w' → E1 w' v q) (h2 : ∀ w w' v q, E2 w v q → Later w w' → E2 w' v q)
    (ha : Rats E1 w va la) (hb : Rats E2 w vb lb) (hlen : la.length ≤ lb.length) (hl9 : la.length ≤ 1000000000) (f : FuncId) (hf : Enters f) (op : Rat → Rat → Rat)
    (hop : ∀ W vx vy x y, Later w W → E1 W vx x → E2 W vy y → x ∈ la → y ∈ lb → Calls Tryz.prog f #[vx, vy] W (Ret W fun w' v => OwnR w' W.heap.size v (op x y))) :
    Calls Tryz.prog 105 #[va, vb, .func (.func f) #[] #[]] w (Ret w fun w' v => OwnRats w' w.heap.size v (List.zipWith op la lb)) := by
  have HA := hide ha; have HB := hide hb; have HOP := hide hop
  have hen := hf.out
  obtain ⟨A0, na, ca, rfl, hna, -, -, ha'⟩ := ha.form
  obtain ⟨B0, nb, cb, rfl, hnb, -, -, hb'⟩ := hb.form
  have HNA := hide hna; have HNB := hide hnb
  have hlen2 : na ≤ nb := by omega
  have hl92 : na ≤ 1000000000 := by omega
  clear ha hb hop hna hnb ha' hb' hlen hl9
  go_enter Tryz.func105, Tryz.ntmps105
  go_wp2_with fail
  go_loopw [7, 12] (fun out i wr => ∃ k : Nat, k ≤ na ∧ i = .int .i64 (k : Int) ∧ OutRats EOwn wr (fun b => w.heap.size ≤ b) w.heap.size out (List.zipWith op (la.take k) (lb.take k)) ∧ Later w wr) (fun _ i _ => (na - intOf i).toNat)
  case atStart => exact ⟨0, by omega, rfl, OutRats.nil _ _ _ _, Later.refl w⟩
  case round =>
    obtain ⟨k, hk, rfl, hout, hL⟩ := hrel
    by_cases hkn : k < na
    · obtain ⟨x, hx⟩ : ∃ x, la[k]? = some x := ⟨la[k]'(by have := HNA.out; omega), List.getElem?_eq_getElem _⟩
      obtain ⟨y, hy⟩ : ∃ y, lb[k]? = some y := ⟨lb[k]'(by have := HNB.out; omega), List.getElem?_eq_getElem _⟩
      have HXM := hide (List.mem_of_getElem? hx); have HYM := hide (List.mem_of_getElem? hy)
      have HZ : Hid (List.zipWith op (la.take (k+1)) (lb.take (k+1)) = List.zipWith op (la.take k) (lb.take k) ++ [op x y]) := hide (by
        have e1 : la.take (k+1) = la.take k ++ [x] := by rw [List.take_add_one, hx]; rfl
        have e2 : lb.take (k+1) = lb.take k ++ [y] := by rw [List.take_add_one, hy]; rfl
        rw [e1, e2, List.zipWith_append (by rw [List.length_take, List.length_take]; have := HNA.out; have := HNB.out; omega)]; rfl)
      obtain ⟨b1, off1, sx, A1, n1, c1, sx', A2, n2, c2, rfl, x1, x2, x3, x4, ex⟩ := HA.out.at_ hx
      obtain ⟨b2, off2, sy, A3, n3, c3, sy', A4, n4, c4, rfl, y1, y2, y3, y4, ey⟩ := HB.out.at_ hy
      have hb2 := World.block_lt_of_cell? w ⟨b2, off2 + k * 4, none⟩ y1
      have hb2 : b2 < w.heap.size := hb2
      have x1 := Later.cell hL x1; have x2 := Later.cell hL x2; have x3 := Later.cell hL x3; have x4 := Later.cell hL x4
      have y1 := Later.cell hL y1; have y2 := Later.cell hL y2; have y3 := Later.cell hL y3; have y4 := Later.cell hL y4
      have ex := h1 _ _ _ _ ex hL; have ey := h2 _ _ _ _ ey hL
      have hk0 : (0 : Int) ≤ (k : Int) := by omega
      have hk1 : (k : Int) < na := by omega
      have hk2 : (k : Int) < nb := by omega
      have HOUT := hide hout
      have hblt := hout.lt
      have hwsz := hL.size
      clear hx hy hout
      go_upto_region 5 with fail
      obtain ⟨wb0, hwb⟩ : ∃ wb0, wb0 = wr.alloc (Obj.cells #[Value.bool sx, Value.slice A1 n1 c1, Value.bool sx', Value.slice A2 n2 c2] 37) := ⟨_, rfl⟩
      have kb : Later wr wb0.drew := by rw [hwb]; exact ((Later.refl wr).alloc _).drew
      have hrow : Row wb0.drew wr.heap.size 37 [.bool sx, .slice A1 n1 c1, .bool sx', .slice A2 n2 c2] := by rw [hwb]; exact (Row.new wr 37 [.bool sx, .slice A1 n1 c1, .bool sx', .slice A2 n2 c2]).drew
      have hbsz : wb0.drew.heap.size = wr.heap.size + 1 := by rw [hwb]; simp
      have hS : ∀ w', wb0.drew.grownBy w' u7.ownBlock → w'.cell? ⟨wr.heap.size, 0, none⟩ = some (.bool sx) ∧ w'.cell? ⟨wr.heap.size, 1, none⟩ = some (.slice A1 n1 c1) ∧ w'.cell? ⟨wr.heap.size, 2, none⟩ = some (.bool sx') ∧ w'.cell? ⟨wr.heap.size, 3, none⟩ = some (.slice A2 n2 c2) ∧ w'.cell? ⟨b2, off2 + k * 4, none⟩ = some (.bool sy) ∧ w'.cell? ⟨b2, off2 + k * 4 + 1, none⟩ = some (.slice A3 n3 c3) ∧ w'.cell? ⟨b2, off2 + k * 4 + 2, none⟩ = some (.bool sy') ∧ w'.cell? ⟨b2, off2 + k * 4 + 3, none⟩ = some (.slice A4 n4 c4) := by
        intro w' hg
        have hne : ∀ u, some wr.heap.size ≠ u7.ownBlock ∨ u := fun u => .inl (fun e => by have := hblt _ e.symm; omega)
        have hr : Row w' wr.heap.size 37 [.bool sx, .slice A1 n1 c1, .bool sx', .slice A2 n2 c2] := hrow.grown hg (fun e => by have := hblt _ e.symm; omega)
        have hbk : some b2 ≠ u7.ownBlock := fun e => by
          have h5 := (hblt _ e.symm).1
          omega
        exact ⟨hr.cell rfl, hr.cell rfl, hr.cell rfl, hr.cell rfl, hg.cell (Later.cell kb y1) hbk, hg.cell (Later.cell kb y2) hbk, hg.cell (Later.cell kb y3) hbk, hg.cell (Later.cell kb y4) hbk⟩
      have HS := hide hS
      have EX := hide (h1 _ _ _ _ ex kb); have EY := hide (h2 _ _ _ _ ey kb)
      have KB := hide (hL.trans kb)
      have HOUT7 : Hid (∀ W, Later wb0.drew W → ∀ {o}, OutRats EOwn (W.alloc o) (fun b => w.heap.size ≤ b) w.heap.size u7 (List.zipWith op (la.take k) (lb.take k))) := hide fun W hW o => HOUT.out.later ((kb.trans hW).alloc _)
      have HEL7 : Hid (∀ W v o, Later wb0.drew W → OwnR W wb0.drew.heap.size v (op x y) → On (W.alloc o) (fun b => w.heap.size ≤ b ∧ some b ≠ u7.ownBlock) (fun W => EOwn W v (op x y))) := hide fun W v o hW ho =>
        (On.made (On.ownR ho) (by omega) (fun k hk => by have := hblt k hk; omega)).later ((Later.refl W).alloc _)
      have HLG : Hid (∀ w', wb0.drew.grownBy w' u7.ownBlock → Later w w') := hide fun w' hg => (hL.trans kb).grown hg fun k hk => (hblt k hk).1
      rw [← hwb]
      have hmx : Tryz.prog.follows .mixedOrders = true := by kernel_rfl
      clear hrow hS x1 x2 x3 x4 y1 y2 y3 y4 ex ey hwb
      refine wp_region_N (fun w' => w'.cell? ⟨wr.heap.size, 0, none⟩ = some (.bool sx) ∧ w'.cell? ⟨wr.heap.size, 1, none⟩ = some (.slice A1 n1 c1) ∧ w'.cell? ⟨wr.heap.size, 2, none⟩ = some (.bool sx') ∧ w'.cell? ⟨wr.heap.size, 3, none⟩ = some (.slice A2 n2 c2) ∧ w'.cell? ⟨b2, off2 + k * 4, none⟩ = some (.bool sy) ∧ w'.cell? ⟨b2, off2 + k * 4 + 1, none⟩ = some (.slice A3 n3 c3) ∧ w'.cell? ⟨b2, off2 + k * 4 + 2, none⟩ = some (.bool sy') ∧ w'.cell? ⟨b2, off2 + k * 4 + 3, none⟩ = some (.slice A4 n4 c4)) [] hmx (HS.out _ (World.grownBy.refl _ _)) (fun hHeld => ?_)
      refine wpAnyN_take (i := 0) (oi := _) (v := ?_) rfl (by kernel_rfl) (by kernel_rfl) (by kernel_rfl) (by kernel_rfl) (fun _ _ _ h => h) (Or.inl ⟨by rfl, ?_⟩) (by assumption) ?_
      rotate_left
      · intro w hSw; (try dsimp only at hSw); go_simp
        first | done | with_reducible rfl
      try simp only [Act.put, List.setIfInBounds_toArray, List.set_cons_zero, List.set_cons_succ]
      refine wpAnyN_take (i := 1) (oi := _) (v := ?_) rfl (by kernel_rfl) (by kernel_rfl) (by kernel_rfl) (by kernel_rfl) (fun _ _ _ h => h) (Or.inl ⟨by rfl, ?_⟩) (by assumption) ?_
      rotate_left
      · intro w hSw; (try dsimp only at hSw); go_simp
        first | done | with_reducible rfl
      try simp only [Act.put, List.setIfInBounds_toArray, List.set_cons_zero, List.set_cons_succ]
      refine wpAnyN_take (i := 2) (oi := _) (v := ?_) rfl (by kernel_rfl) (by kernel_rfl) (by kernel_rfl) (by kernel_rfl) (fun _ _ _ h => h) (Or.inl ⟨by rfl, ?_⟩) (by assumption) ?_
      rotate_left
      · intro w hSw; (try dsimp only at hSw); go_simp
        first | done | with_reducible rfl
      try simp only [Act.put, List.setIfInBounds_toArray, List.set_cons_zero, List.set_cons_succ]
      refine wpAnyN_take (i := 3) (oi := _) (v := ?_) rfl (by kernel_rfl) (by kernel_rfl) (by kernel_rfl) (by kernel_rfl) (fun _ _ _ h => h) (Or.inl ⟨by rfl, ?_⟩) (by assumption) ?_
      rotate_left
      · intro w hSw; (try dsimp only at hSw); go_simp
        first | done | with_reducible rfl
      try simp only [Act.put, List.setIfInBounds_toArray, List.set_cons_zero, List.set_cons_succ]
      refine wpAnyN_take (i := 4) (oi := _) (v := ?_) rfl (by kernel_rfl) (by kernel_rfl) (by kernel_rfl) (by kernel_rfl) (fun _ _ _ h => h) (Or.inl ⟨by rfl, ?_⟩) (by assumption) ?_
      rotate_left
      · intro w hSw; (try dsimp only at hSw); go_simp
        first | done | with_reducible rfl
      try simp only [Act.put, List.setIfInBounds_toArray, List.set_cons_zero, List.set_cons_succ]
      refine wpAnyN_take (i := 5) (oi := _) (v := ?_) rfl (by kernel_rfl) (by kernel_rfl) (by kernel_rfl) (by kernel_rfl) (fun _ _ _ h => h) (Or.inl ⟨by rfl, ?_⟩) (by assumption) ?_
      rotate_left
      · intro w hSw; (try dsimp only at hSw); go_simp
        first | done | with_reducible rfl
      try simp only [Act.put, List.setIfInBounds_toArray, List.set_cons_zero, List.set_cons_succ]
      refine wpAnyN_take (i := 6) (oi := _) (v := ?_) rfl (by kernel_rfl) (by kernel_rfl) (by kernel_rfl) (by kernel_rfl) (fun _ _ _ h => h) (Or.inl ⟨by rfl, ?_⟩) (by assumption) ?_
      rotate_left
      · intro w hSw; (try dsimp only at hSw); go_simp
        first | done | with_reducible rfl
      try simp only [Act.put, List.setIfInBounds_toArray, List.set_cons_zero, List.set_cons_succ]
      refine wpAnyN_ready (rs := [7]) (by kernel_rfl) (by simp) ?_
      refine AllReadyN.held rfl (by rfl) (fun K hK => ?_) AllReadyN.nil
      go_simp
      (with_reducible refine (HOP.out _ _ _ x y KB.out EX.out EY.out HXM.out HYM.out).mono ?_)
      rintro e w7 ⟨v7, rfl, o7, b7⟩
      obtain ⟨s7, P7, q7, e7, P7', q7', e7', rfl, o7⟩ := o7.open_; have O7 := hide o7; clear o7
      have hs7 := b7.size
      refine hK.out _ _ ?_ (fun hHeld => ?_)
      · exact HS.out _ ((World.grownBy.refl wb0.drew _).trans (Later.grownBy b7 _))
      clear hK K
      try simp only [Act.put, List.setIfInBounds_toArray, List.set_cons_zero, List.set_cons_succ]
      refine wpAnyN_ready (rs := [8]) (by kernel_rfl) (by simp) ?_
      refine AllReadyN.held rfl (by rfl) (fun K hK => ?_) AllReadyN.nil
      go_simp
      refine hK.out _ _ ?_ (fun hHeld => ?_)
      · exact HS.out _ (((World.grownBy.refl wb0.drew _).trans (Later.grownBy b7 _)).trans (World.grownBy_alloc _ _ _))
      clear hK K
      try simp only [Act.put, List.setIfInBounds_toArray, List.set_cons_zero, List.set_cons_succ]
      refine wpAnyN_ready (rs := [9]) (by kernel_rfl) (by simp) ?_
      refine AllReadyN.held rfl (by rfl) (fun K hK => ?_) AllReadyN.nil
      refine wp_append_rat _ _ rfl (by rfl) (HOUT7.out _ b7) (by rfl) (Row.new w7 37 [.bool s7, .slice P7 q7 e7, .bool false, .slice P7' q7' e7']) (HEL7.out _ _ _ b7 O7.out) (by rw [List.length_zipWith, List.length_take]; omega) (by rw [World.size_alloc]; omega) ?_
      intro v9 w9 hout9 hg9
      have HOUT9 := hide hout9
      have HG9 := hide hg9
      clear hout9
      refine hK.out _ _ ?_ (fun hHeld => ?_)
      · exact HS.out _ ((((World.grownBy.refl wb0.drew _).trans (Later.grownBy b7 _)).trans (World.grownBy_alloc _ _ _)).trans hg9)
      clear hK K
      try simp only [Act.put, List.setIfInBounds_toArray, List.set_cons_zero, List.set_cons_succ]
      refine wpAnyN_take (i := 10) (oi := _) (v := ?_) rfl (by kernel_rfl) (by kernel_rfl) (by kernel_rfl) (by kernel_rfl) (fun _ _ _ h => h) (Or.inl ⟨by rfl, ?_⟩) (by assumption) ?_
      rotate_left
      · intro w hSw; (try dsimp only at hSw); go_simp
        first | done | with_reducible rfl
      try simp only [Act.put, List.setIfInBounds_toArray, List.set_cons_zero, List.set_cons_succ]
      refine wpAnyN_done (by kernel_rfl) ?_ _
      have hwr : Later w w9 := HLG.out _ (by exact ((Later.grownBy b7 _).trans (World.grownBy_alloc _ _ _)).trans HG9.out)
      have HO : OutRats EOwn w9 (fun b => w.heap.size ≤ b) w.heap.size v9 (List.zipWith op (la.take (k+1)) (lb.take (k+1))) := by
        rw [HZ.out]; exact HOUT9.out
      have HO2 := hide HO
      clear HO hHeld
      go_wp2_with fail
      refine ⟨⟨k+1, by omega, by go_num, HO2.out, hwr⟩, by simp [intOf]; omega⟩

    · obtain rfl : k = na := by omega
      rw [List.take_of_length_le (by rw [← HNA.out]; exact Nat.le_refl _), show List.zipWith op la (lb.take k) = List.zipWith op la lb by rw [HNA.out]; exact zipWith_take_ op la lb] at hout
      have HO := hide hout
      clear hout
      go_wp2_with fail
      go_ret
      exact ⟨_, rfl, (HO.out.rats).mono (fun b hb _ => by rcases hb with h | h <;> exact h), hL⟩

set_option maxHeartbeats 4000000 in
theorem pairs1_calls (w : World) (va vb : Value) (la lb : List Rat) (E1 E2 : Elem) (h1 : ∀ w w' v q, E1 w v q → Later w w' → E1 w' v q) (h2 : ∀ w w' v q, E2 w v q → Later w w' → E2 w' v q)
    (ha : Rats E1 w va la) (hb : Rats E2 w vb lb) (hlen : la.length ≤ lb.length) (hl9 : la.length ≤ 1000000000) (f : FuncId) (hf : Enters f) (G : Nat) (op : Rat → Rat → Rat)
    (hop : ∀ W vx vy x y, Later w W → E1 W vx x → E2 W vy y → x ∈ la → y ∈ lb → Calls Tryz.prog f #[vx, vy, .pointer (some ⟨G, 0, none⟩)] W (Ret W fun w' v => OwnR w' W.heap.size v (op x y))) :
    Calls Tryz.prog 105 #[va, vb, .func (.func f) #[] #[.pointer (some ⟨G, 0, none⟩)]] w (Ret w fun w' v => OwnRats w' w.heap.size v (List.zipWith op la lb)) := by
  have HA := hide ha; have HB := hide hb; have HOP := hide hop
  have hen := hf.out
  obtain ⟨A0, na, ca, rfl, hna, -, -, ha'⟩ := ha.form
  obtain ⟨B0, nb, cb, rfl, hnb, -, -, hb'⟩ := hb.form
  have HNA := hide hna; have HNB := hide hnb
  have hlen2 : na ≤ nb := by omega
  have hl92 : na ≤ 1000000000 := by omega
  clear ha hb hop hna hnb ha' hb' hlen hl9
  go_enter Tryz.func105, Tryz.ntmps105
  go_wp2_with fail
  go_loopw [7, 12] (fun out i wr => ∃ k : Nat, k ≤ na ∧ i = .int .i64 (k : Int) ∧ OutRats EOwn wr (fun b => w.heap.size ≤ b) w.heap.size out (List.zipWith op (la.take k) (lb.take k)) ∧ Later w wr) (fun _ i _ => (na - intOf i).toNat)
  case atStart => exact ⟨0, by omega, rfl, OutRats.nil _ _ _ _, Later.refl w⟩
  case round =>
    obtain ⟨k, hk, rfl, hout, hL⟩ := hrel
    by_cases hkn : k < na
    · obtain ⟨x, hx⟩ : ∃ x, la[k]? = some x := ⟨la[k]'(by have := HNA.out; omega), List.getElem?_eq_getElem _⟩
      obtain ⟨y, hy⟩ : ∃ y, lb[k]? = some y := ⟨lb[k]'(by have := HNB.out; omega), List.getElem?_eq_getElem _⟩
      have HXM := hide (List.mem_of_getElem? hx); have HYM := hide (List.mem_of_getElem? hy)
      have HZ : Hid (List.zipWith op (la.take (k+1)) (lb.take (k+1)) = List.zipWith op (la.take k) (lb.take k) ++ [op x y]) := hide (by
        have e1 : la.take (k+1) = la.take k ++ [x] := by rw [List.take_add_one, hx]; rfl
        have e2 : lb.take (k+1) = lb.take k ++ [y] := by rw [List.take_add_one, hy]; rfl
        rw [e1, e2, List.zipWith_append (by rw [List.length_take, List.length_take]; have := HNA.out; have := HNB.out; omega)]; rfl)
      obtain ⟨b1, off1, sx, A1, n1, c1, sx', A2, n2, c2, rfl, x1, x2, x3, x4, ex⟩ := HA.out.at_ hx
      obtain ⟨b2, off2, sy, A3, n3, c3, sy', A4, n4, c4, rfl, y1, y2, y3, y4, ey⟩ := HB.out.at_ hy
      have hb2 := World.block_lt_of_cell? w ⟨b2, off2 + k * 4, none⟩ y1
      have hb2 : b2 < w.heap.size := hb2
      have x1 := Later.cell hL x1; have x2 := Later.cell hL x2; have x3 := Later.cell hL x3; have x4 := Later.cell hL x4
      have y1 := Later.cell hL y1; have y2 := Later.cell hL y2; have y3 := Later.cell hL y3; have y4 := Later.cell hL y4
      have ex := h1 _ _ _ _ ex hL; have ey := h2 _ _ _ _ ey hL
      have hk0 : (0 : Int) ≤ (k : Int) := by omega
      have hk1 : (k : Int) < na := by omega
      have hk2 : (k : Int) < nb := by omega
      have HOUT := hide hout
      have hblt := hout.lt
      have hwsz := hL.size
      clear hx hy hout
      go_upto_region 5 with fail
      obtain ⟨wb0, hwb⟩ : ∃ wb0, wb0 = wr.alloc (Obj.cells #[Value.bool sx, Value.slice A1 n1 c1, Value.bool sx', Value.slice A2 n2 c2] 37) := ⟨_, rfl⟩
      have kb : Later wr wb0.drew := by rw [hwb]; exact ((Later.refl wr).alloc _).drew
      have hrow : Row wb0.drew wr.heap.size 37 [.bool sx, .slice A1 n1 c1, .bool sx', .slice A2 n2 c2] := by rw [hwb]; exact (Row.new wr 37 [.bool sx, .slice A1 n1 c1, .bool sx', .slice A2 n2 c2]).drew
      have hbsz : wb0.drew.heap.size = wr.heap.size + 1 := by rw [hwb]; simp
      have hS : ∀ w', wb0.drew.grownBy w' u7.ownBlock → w'.cell? ⟨wr.heap.size, 0, none⟩ = some (.bool sx) ∧ w'.cell? ⟨wr.heap.size, 1, none⟩ = some (.slice A1 n1 c1) ∧ w'.cell? ⟨wr.heap.size, 2, none⟩ = some (.bool sx') ∧ w'.cell? ⟨wr.heap.size, 3, none⟩ = some (.slice A2 n2 c2) ∧ w'.cell? ⟨b2, off2 + k * 4, none⟩ = some (.bool sy) ∧ w'.cell? ⟨b2, off2 + k * 4 + 1, none⟩ = some (.slice A3 n3 c3) ∧ w'.cell? ⟨b2, off2 + k * 4 + 2, none⟩ = some (.bool sy') ∧ w'.cell? ⟨b2, off2 + k * 4 + 3, none⟩ = some (.slice A4 n4 c4) := by
        intro w' hg
        have hne : ∀ u, some wr.heap.size ≠ u7.ownBlock ∨ u := fun u => .inl (fun e => by have := hblt _ e.symm; omega)
        have hr : Row w' wr.heap.size 37 [.bool sx, .slice A1 n1 c1, .bool sx', .slice A2 n2 c2] := hrow.grown hg (fun e => by have := hblt _ e.symm; omega)
        have hbk : some b2 ≠ u7.ownBlock := fun e => by
          have h5 := (hblt _ e.symm).1
          omega
        exact ⟨hr.cell rfl, hr.cell rfl, hr.cell rfl, hr.cell rfl, hg.cell (Later.cell kb y1) hbk, hg.cell (Later.cell kb y2) hbk, hg.cell (Later.cell kb y3) hbk, hg.cell (Later.cell kb y4) hbk⟩
      have HS := hide hS
      have EX := hide (h1 _ _ _ _ ex kb); have EY := hide (h2 _ _ _ _ ey kb)
      have KB := hide (hL.trans kb)
      have HOUT7 : Hid (∀ W, Later wb0.drew W → ∀ {o}, OutRats EOwn (W.alloc o) (fun b => w.heap.size ≤ b) w.heap.size u7 (List.zipWith op (la.take k) (lb.take k))) := hide fun W hW o => HOUT.out.later ((kb.trans hW).alloc _)
      have HEL7 : Hid (∀ W v o, Later wb0.drew W → OwnR W wb0.drew.heap.size v (op x y) → On (W.alloc o) (fun b => w.heap.size ≤ b ∧ some b ≠ u7.ownBlock) (fun W => EOwn W v (op x y))) := hide fun W v o hW ho =>
        (On.made (On.ownR ho) (by omega) (fun k hk => by have := hblt k hk; omega)).later ((Later.refl W).alloc _)
      have HLG : Hid (∀ w', wb0.drew.grownBy w' u7.ownBlock → Later w w') := hide fun w' hg => (hL.trans kb).grown hg fun k hk => (hblt k hk).1
      rw [← hwb]
      have hmx : Tryz.prog.follows .mixedOrders = true := by kernel_rfl
      clear hrow hS x1 x2 x3 x4 y1 y2 y3 y4 ex ey hwb
      refine wp_region_N (fun w' => w'.cell? ⟨wr.heap.size, 0, none⟩ = some (.bool sx) ∧ w'.cell? ⟨wr.heap.size, 1, none⟩ = some (.slice A1 n1 c1) ∧ w'.cell? ⟨wr.heap.size, 2, none⟩ = some (.bool sx') ∧ w'.cell? ⟨wr.heap.size, 3, none⟩ = some (.slice A2 n2 c2) ∧ w'.cell? ⟨b2, off2 + k * 4, none⟩ = some (.bool sy) ∧ w'.cell? ⟨b2, off2 + k * 4 + 1, none⟩ = some (.slice A3 n3 c3) ∧ w'.cell? ⟨b2, off2 + k * 4 + 2, none⟩ = some (.bool sy') ∧ w'.cell? ⟨b2, off2 + k * 4 + 3, none⟩ = some (.slice A4 n4 c4)) [] hmx (HS.out _ (World.grownBy.refl _ _)) (fun hHeld => ?_)
      refine wpAnyN_take (i := 0) (oi := _) (v := ?_) rfl (by kernel_rfl) (by kernel_rfl) (by kernel_rfl) (by kernel_rfl) (fun _ _ _ h => h) (Or.inl ⟨by rfl, ?_⟩) (by assumption) ?_
      rotate_left
      · intro w hSw; (try dsimp only at hSw); go_simp
        first | done | with_reducible rfl
      try simp only [Act.put, List.setIfInBounds_toArray, List.set_cons_zero, List.set_cons_succ]
      refine wpAnyN_take (i := 1) (oi := _) (v := ?_) rfl (by kernel_rfl) (by kernel_rfl) (by kernel_rfl) (by kernel_rfl) (fun _ _ _ h => h) (Or.inl ⟨by rfl, ?_⟩) (by assumption) ?_
      rotate_left
      · intro w hSw; (try dsimp only at hSw); go_simp
        first | done | with_reducible rfl
      try simp only [Act.put, List.setIfInBounds_toArray, List.set_cons_zero, List.set_cons_succ]
      refine wpAnyN_take (i := 2) (oi := _) (v := ?_) rfl (by kernel_rfl) (by kernel_rfl) (by kernel_rfl) (by kernel_rfl) (fun _ _ _ h => h) (Or.inl ⟨by rfl, ?_⟩) (by assumption) ?_
      rotate_left
      · intro w hSw; (try dsimp only at hSw); go_simp
        first | done | with_reducible rfl
      try simp only [Act.put, List.setIfInBounds_toArray, List.set_cons_zero, List.set_cons_succ]
      refine wpAnyN_take (i := 3) (oi := _) (v := ?_) rfl (by kernel_rfl) (by kernel_rfl) (by kernel_rfl) (by kernel_rfl) (fun _ _ _ h => h) (Or.inl ⟨by rfl, ?_⟩) (by assumption) ?_
      rotate_left
      · intro w hSw; (try dsimp only at hSw); go_simp
        first | done | with_reducible rfl
      try simp only [Act.put, List.setIfInBounds_toArray, List.set_cons_zero, List.set_cons_succ]
      refine wpAnyN_take (i := 4) (oi := _) (v := ?_) rfl (by kernel_rfl) (by kernel_rfl) (by kernel_rfl) (by kernel_rfl) (fun _ _ _ h => h) (Or.inl ⟨by rfl, ?_⟩) (by assumption) ?_
      rotate_left
      · intro w hSw; (try dsimp only at hSw); go_simp
        first | done | with_reducible rfl
      try simp only [Act.put, List.setIfInBounds_toArray, List.set_cons_zero, List.set_cons_succ]
      refine wpAnyN_take (i := 5) (oi := _) (v := ?_) rfl (by kernel_rfl) (by kernel_rfl) (by kernel_rfl) (by kernel_rfl) (fun _ _ _ h => h) (Or.inl ⟨by rfl, ?_⟩) (by assumption) ?_
      rotate_left
      · intro w hSw; (try dsimp only at hSw); go_simp
        first | done | with_reducible rfl
      try simp only [Act.put, List.setIfInBounds_toArray, List.set_cons_zero, List.set_cons_succ]
      refine wpAnyN_take (i := 6) (oi := _) (v := ?_) rfl (by kernel_rfl) (by kernel_rfl) (by kernel_rfl) (by kernel_rfl) (fun _ _ _ h => h) (Or.inl ⟨by rfl, ?_⟩) (by assumption) ?_
      rotate_left
      · intro w hSw; (try dsimp only at hSw); go_simp
        first | done | with_reducible rfl
      try simp only [Act.put, List.setIfInBounds_toArray, List.set_cons_zero, List.set_cons_succ]
      refine wpAnyN_ready (rs := [7]) (by kernel_rfl) (by simp) ?_
      refine AllReadyN.held rfl (by rfl) (fun K hK => ?_) AllReadyN.nil
      go_simp
      (with_reducible refine (HOP.out _ _ _ x y KB.out EX.out EY.out HXM.out HYM.out).mono ?_)
      rintro e w7 ⟨v7, rfl, o7, b7⟩
      obtain ⟨s7, P7, q7, e7, P7', q7', e7', rfl, o7⟩ := o7.open_; have O7 := hide o7; clear o7
      have hs7 := b7.size
      refine hK.out _ _ ?_ (fun hHeld => ?_)
      · exact HS.out _ ((World.grownBy.refl wb0.drew _).trans (Later.grownBy b7 _))
      clear hK K
      try simp only [Act.put, List.setIfInBounds_toArray, List.set_cons_zero, List.set_cons_succ]
      refine wpAnyN_ready (rs := [8]) (by kernel_rfl) (by simp) ?_
      refine AllReadyN.held rfl (by rfl) (fun K hK => ?_) AllReadyN.nil
      go_simp
      refine hK.out _ _ ?_ (fun hHeld => ?_)
      · exact HS.out _ (((World.grownBy.refl wb0.drew _).trans (Later.grownBy b7 _)).trans (World.grownBy_alloc _ _ _))
      clear hK K
      try simp only [Act.put, List.setIfInBounds_toArray, List.set_cons_zero, List.set_cons_succ]
      refine wpAnyN_ready (rs := [9]) (by kernel_rfl) (by simp) ?_
      refine AllReadyN.held rfl (by rfl) (fun K hK => ?_) AllReadyN.nil
      refine wp_append_rat _ _ rfl (by rfl) (HOUT7.out _ b7) (by rfl) (Row.new w7 37 [.bool s7, .slice P7 q7 e7, .bool false, .slice P7' q7' e7']) (HEL7.out _ _ _ b7 O7.out) (by rw [List.length_zipWith, List.length_take]; omega) (by rw [World.size_alloc]; omega) ?_
      intro v9 w9 hout9 hg9
      have HOUT9 := hide hout9
      have HG9 := hide hg9
      clear hout9
      refine hK.out _ _ ?_ (fun hHeld => ?_)
      · exact HS.out _ ((((World.grownBy.refl wb0.drew _).trans (Later.grownBy b7 _)).trans (World.grownBy_alloc _ _ _)).trans hg9)
      clear hK K
      try simp only [Act.put, List.setIfInBounds_toArray, List.set_cons_zero, List.set_cons_succ]
      refine wpAnyN_take (i := 10) (oi := _) (v := ?_) rfl (by kernel_rfl) (by kernel_rfl) (by kernel_rfl) (by kernel_rfl) (fun _ _ _ h => h) (Or.inl ⟨by rfl, ?_⟩) (by assumption) ?_
      rotate_left
      · intro w hSw; (try dsimp only at hSw); go_simp
        first | done | with_reducible rfl
      try simp only [Act.put, List.setIfInBounds_toArray, List.set_cons_zero, List.set_cons_succ]
      refine wpAnyN_done (by kernel_rfl) ?_ _
      have hwr : Later w w9 := HLG.out _ (by exact ((Later.grownBy b7 _).trans (World.grownBy_alloc _ _ _)).trans HG9.out)
      have HO : OutRats EOwn w9 (fun b => w.heap.size ≤ b) w.heap.size v9 (List.zipWith op (la.take (k+1)) (lb.take (k+1))) := by
        rw [HZ.out]; exact HOUT9.out
      have HO2 := hide HO
      clear HO hHeld
      go_wp2_with fail
      refine ⟨⟨k+1, by omega, by go_num, HO2.out, hwr⟩, by simp [intOf]; omega⟩

    · obtain rfl : k = na := by omega
      rw [List.take_of_length_le (by rw [← HNA.out]; exact Nat.le_refl _), show List.zipWith op la (lb.take k) = List.zipWith op la lb by rw [HNA.out]; exact zipWith_take_ op la lb] at hout
      have HO := hide hout
      clear hout
      go_wp2_with fail
      go_ret
      exact ⟨_, rfl, (HO.out.rats).mono (fun b hb _ => by rcases hb with h | h <;> exact h), hL⟩
end Go.Proofs.YthncinngkfflgaaGreat


/- Rows of fractions: AddTimes. -/
set_option linter.unusedVariables false
set_option linter.unusedSimpArgs false
set_option maxRecDepth 100000
namespace Go.Proofs.YthncinngkfflgaaGreat
open Go.RowKit Go.Shelf
attribute [local go_sem ↓] Go.wp_at_zero Go.wp_at_succ

theorem rawR_len {w : World} {s s' : Bool} {A A' : Option Addr} {n c n' c' k : Nat} {q : Rat} (h : RawR w (.agg #[.bool s, .slice A n c, .bool s', .slice A' n' c']) q k) (h0 : n = 0) : q = 0 := by
  subst h0
  obtain ⟨a, A1, n1, c1, b, A2, n2, c2, x, y, e, h1, h2, rfl⟩ := h
  injection e with e; injection e with e; injection e with e1 e; injection e with e2 e
  obtain ⟨neg, A3, n3, c3, l, e3, hu, hz, hl⟩ := h1
  injection e3 with e3; injection e3 with e3; injection e3 with e4 e3; injection e3 with e5 e3
  obtain ⟨A4, c4, e6, -, -, -, -⟩ := hu.form
  rw [← e5, ← e2] at e6
  injection e6 with _ e7 _
  have hl0 : l = [] := List.eq_nil_of_length_eq_zero e7.symm
  subst hl0
  have hx0 : x = 0 := by rw [hz]; cases neg <;> rfl
  rw [hx0]
  by_cases hy : 0 < y
  · rw [ratOf_pos hy, Rat.divInt_eq_div]; simp [Rat.div_def]
  · exact ratOf_not hy

set_option maxHeartbeats 4000000 in
theorem at1_calls (w : World) (va vb : Value) (a b q : Rat) (k m p : Nat) (ha : RawR w va a k) (hb : RawR w vb b m) (G : Nat) (sk sk' : Bool) (A3 A3' : Option Addr) (n3 c3 n3' c3' : Nat)
    (hrow : Row w G 37 [.bool sk, .slice A3 n3 c3, .bool sk', .slice A3' n3' c3']) (hq : RawR w (.agg #[.bool sk, .slice A3 n3 c3, .bool sk', .slice A3' n3' c3']) q p) (hkm : k + m + p ≤ 100000000) :
    Calls Tryz.prog 145 #[va, vb, .pointer (some ⟨G, 0, none⟩)] w (Ret w fun w' v => OwnR w' w.heap.size v (a + q * b)) := by
  have HA := hide ha; have HB := hide hb; have HQ := hide hq
  obtain ⟨sx, A1, n1, c1, sx', A1', n1', c1', rfl⟩ := ha.open_
  obtain ⟨sy, A2, n2, c2, sy', A2', n2', c2', rfl⟩ := hb.open_
  obtain ⟨z, hz⟩ : ∃ z, z = a + q * b := ⟨_, rfl⟩
  rw [← hz]
  have hgl := hrow.lt
  obtain ⟨W0, hW0⟩ : ∃ W0, W0 = (((w.alloc (Obj.cells #[Value.bool sx, Value.slice A1 n1 c1, Value.bool sx', Value.slice A1' n1' c1'] 37)).alloc (Obj.cells #[Value.bool sy, Value.slice A2 n2 c2, Value.bool sy', Value.slice A2' n2' c2'] 37)).alloc (Obj.cells #[Value.bool false, Value.slice none 0 0, Value.bool false, Value.slice none 0 0] 37)) := ⟨_, rfl⟩
  obtain ⟨hb0, r1, r2, r3, hsz⟩ := boxes3 w [.bool sx, .slice A1 n1 c1, .bool sx', .slice A1' n1' c1'] [.bool sy, .slice A2 n2 c2, .bool sy', .slice A2' n2' c2'] [.bool false, .slice none 0 0, .bool false, .slice none 0 0] 37 37 37 hW0
  have r0 := hrow.later hb0
  obtain ⟨d1, d2, d3, d4, d5, d6, d7, d8⟩ := row_cells4 r0
  obtain ⟨f1, f2, f3, f4, f5, f6, f7, f8⟩ := row_cells4 r2
  rw [hW0] at d1 d2 d3 d4 d5 d6 d7 d8 f1 f2 f3 f4 f5 f6 f7 f8
  have HW0 := hide hW0; have B0 := hide hb0; have R0 := hide r0; have R1 := hide r1; have R2 := hide r2; have R3 := hide r3
  by_cases hz0 : n3 = 0 ∨ n2 = 0
  · have hza : z = a := by
      rcases hz0 with h0 | h0
      · rw [hz, rawR_len hq h0]; grind
      · rw [hz, rawR_len hb h0]; grind
    subst hza
    have hcase : (n3 = 0) ∨ (((n3 : Int) == 0) = false ∧ n2 = 0) := by
      rcases hz0 with h0 | h0
      · exact .inl h0
      · by_cases h3 : n3 = 0
        · exact .inl h3
        · exact .inr ⟨by simp; omega, h0⟩
    clear hz0 hz ha hb hq hrow r0 r1 r2 r3 hb0 hW0
    rcases hcase with h0 | ⟨h0, h1⟩
    · have h00 := hide h0
      subst h0
      go_enter Tryz.func145, Tryz.ntmps145
      go_upto_region 2 with fail
      rw [← HW0.out]
      clear d1 d2 d3 d4 d5 d6 d7 d8 f1 f2 f3 f4 f5 f6 f7 f8
      obtain ⟨d1, d2, d3, d4, d5, d6, d7, d8⟩ := row_cells4 R1.out
      go_wp2_with fail
      refine (rplain_calls _ _ z k (HA.out.later B0.out) (by omega)).mono ?_
      rintro e w1 ⟨v1, rfl, o1, b1⟩
      obtain ⟨s1, P1, q1, e1, P1', q1', e1', rfl, o1⟩ := o1.open_; have O1 := hide o1; clear o1
      have HR := hide (R3.out.later b1)
      have hs1 := b1.size
      have hL := B0.out.trans b1
      clear d1 d2 d3 d4 d5 d6 d7 d8
      obtain ⟨d1, d2, d3, d4, d5, d6, d7, d8⟩ := row_cells4 HR.out
      go_wp2_with fail
      refine bodyPost_ret (results_rat rfl rfl (HR.out.four _ _ _ _)) rfl ?_
      have oo := Only.four (w.heap.size + 2) w1 (.bool s1) (.slice P1 q1 e1) (.bool false) (.slice P1' q1' e1')
      exact ⟨_, rfl, (O1.out.only oo (by omega)).weaken (by omega), hL.only oo (by omega)⟩
    · have h00 := hide h1
      subst h1
      go_enter Tryz.func145, Tryz.ntmps145
      go_upto_region 2 with fail
      rw [← HW0.out]
      clear d1 d2 d3 d4 d5 d6 d7 d8 f1 f2 f3 f4 f5 f6 f7 f8
      obtain ⟨d1, d2, d3, d4, d5, d6, d7, d8⟩ := row_cells4 R1.out
      go_wp2_with fail
      refine (rplain_calls _ _ z k (HA.out.later B0.out) (by omega)).mono ?_
      rintro e w1 ⟨v1, rfl, o1, b1⟩
      obtain ⟨s1, P1, q1, e1, P1', q1', e1', rfl, o1⟩ := o1.open_; have O1 := hide o1; clear o1
      have HR := hide (R3.out.later b1)
      have hs1 := b1.size
      have hL := B0.out.trans b1
      clear d1 d2 d3 d4 d5 d6 d7 d8
      obtain ⟨d1, d2, d3, d4, d5, d6, d7, d8⟩ := row_cells4 HR.out
      go_wp2_with fail
      refine bodyPost_ret (results_rat rfl rfl (HR.out.four _ _ _ _)) rfl ?_
      have oo := Only.four (w.heap.size + 2) w1 (.bool s1) (.slice P1 q1 e1) (.bool false) (.slice P1' q1' e1')
      exact ⟨_, rfl, (O1.out.only oo (by omega)).weaken (by omega), hL.only oo (by omega)⟩
  · have t1 : ((n3 : Int) == 0) = false := by simp; omega
    have t2 : ((n2 : Int) == 0) = false := by simp; omega
    have HZ := hide hz
    have SQ := hq.sized; have SB := hb.sized
    have SM := hide ((SQ.mul SB).mono (by omega : p + 1 + (m + 1) ≤ p + m + 2))
    have D0 : Hid (Later W0 W0.drew) := hide (Later.refl W0).drew
    have r1 := r1.drew; have r2 := r2.drew; have r0 := r0.drew
    have HT1 : Hid (∀ w', Later W0.drew w' → w'.cell? ⟨w.heap.size, 0, none⟩ = some (.bool sx) ∧ w'.cell? ⟨w.heap.size, 1, none⟩ = some (.slice A1 n1 c1) ∧ w'.cell? ⟨w.heap.size, 2, none⟩ = some (.bool sx') ∧ w'.cell? ⟨w.heap.size, 3, none⟩ = some (.slice A1' n1' c1') ∧ w'.cell? ⟨w.heap.size + 1, 0, none⟩ = some (.bool sy) ∧ w'.cell? ⟨w.heap.size + 1, 1, none⟩ = some (.slice A2 n2 c2) ∧ w'.cell? ⟨w.heap.size + 1, 2, none⟩ = some (.bool sy') ∧ w'.cell? ⟨w.heap.size + 1, 3, none⟩ = some (.slice A2' n2' c2') ∧ w'.cell? ⟨G, 0, none⟩ = some (.bool sk) ∧ w'.cell? ⟨G, 1, none⟩ = some (.slice A3 n3 c3) ∧ w'.cell? ⟨G, 2, none⟩ = some (.bool sk') ∧ w'.cell? ⟨G, 3, none⟩ = some (.slice A3' n3' c3')) :=
      hide fun w' hb => ⟨(r1.later hb).cell rfl, (r1.later hb).cell rfl, (r1.later hb).cell rfl, (r1.later hb).cell rfl, (r2.later hb).cell rfl, (r2.later hb).cell rfl, (r2.later hb).cell rfl, (r2.later hb).cell rfl, (r0.later hb).cell rfl, (r0.later hb).cell rfl, (r0.later hb).cell rfl, (r0.later hb).cell rfl⟩
    have HT2 : Hid (∀ w' a_ b_ c_ d_, Later W0.drew w' → ((((w'.setCell ⟨w.heap.size + 2, 0, none⟩ a_).setCell ⟨w.heap.size + 2, 1, none⟩ b_).setCell ⟨w.heap.size + 2, 2, none⟩ c_).setCell ⟨w.heap.size + 2, 3, none⟩ d_).cell? ⟨w.heap.size, 0, none⟩ = some (.bool sx) ∧ ((((w'.setCell ⟨w.heap.size + 2, 0, none⟩ a_).setCell ⟨w.heap.size + 2, 1, none⟩ b_).setCell ⟨w.heap.size + 2, 2, none⟩ c_).setCell ⟨w.heap.size + 2, 3, none⟩ d_).cell? ⟨w.heap.size, 1, none⟩ = some (.slice A1 n1 c1) ∧ ((((w'.setCell ⟨w.heap.size + 2, 0, none⟩ a_).setCell ⟨w.heap.size + 2, 1, none⟩ b_).setCell ⟨w.heap.size + 2, 2, none⟩ c_).setCell ⟨w.heap.size + 2, 3, none⟩ d_).cell? ⟨w.heap.size, 2, none⟩ = some (.bool sx') ∧ ((((w'.setCell ⟨w.heap.size + 2, 0, none⟩ a_).setCell ⟨w.heap.size + 2, 1, none⟩ b_).setCell ⟨w.heap.size + 2, 2, none⟩ c_).setCell ⟨w.heap.size + 2, 3, none⟩ d_).cell? ⟨w.heap.size, 3, none⟩ = some (.slice A1' n1' c1') ∧ ((((w'.setCell ⟨w.heap.size + 2, 0, none⟩ a_).setCell ⟨w.heap.size + 2, 1, none⟩ b_).setCell ⟨w.heap.size + 2, 2, none⟩ c_).setCell ⟨w.heap.size + 2, 3, none⟩ d_).cell? ⟨w.heap.size + 1, 0, none⟩ = some (.bool sy) ∧ ((((w'.setCell ⟨w.heap.size + 2, 0, none⟩ a_).setCell ⟨w.heap.size + 2, 1, none⟩ b_).setCell ⟨w.heap.size + 2, 2, none⟩ c_).setCell ⟨w.heap.size + 2, 3, none⟩ d_).cell? ⟨w.heap.size + 1, 1, none⟩ = some (.slice A2 n2 c2) ∧ ((((w'.setCell ⟨w.heap.size + 2, 0, none⟩ a_).setCell ⟨w.heap.size + 2, 1, none⟩ b_).setCell ⟨w.heap.size + 2, 2, none⟩ c_).setCell ⟨w.heap.size + 2, 3, none⟩ d_).cell? ⟨w.heap.size + 1, 2, none⟩ = some (.bool sy') ∧ ((((w'.setCell ⟨w.heap.size + 2, 0, none⟩ a_).setCell ⟨w.heap.size + 2, 1, none⟩ b_).setCell ⟨w.heap.size + 2, 2, none⟩ c_).setCell ⟨w.heap.size + 2, 3, none⟩ d_).cell? ⟨w.heap.size + 1, 3, none⟩ = some (.slice A2' n2' c2') ∧ ((((w'.setCell ⟨w.heap.size + 2, 0, none⟩ a_).setCell ⟨w.heap.size + 2, 1, none⟩ b_).setCell ⟨w.heap.size + 2, 2, none⟩ c_).setCell ⟨w.heap.size + 2, 3, none⟩ d_).cell? ⟨G, 0, none⟩ = some (.bool sk) ∧ ((((w'.setCell ⟨w.heap.size + 2, 0, none⟩ a_).setCell ⟨w.heap.size + 2, 1, none⟩ b_).setCell ⟨w.heap.size + 2, 2, none⟩ c_).setCell ⟨w.heap.size + 2, 3, none⟩ d_).cell? ⟨G, 1, none⟩ = some (.slice A3 n3 c3) ∧ ((((w'.setCell ⟨w.heap.size + 2, 0, none⟩ a_).setCell ⟨w.heap.size + 2, 1, none⟩ b_).setCell ⟨w.heap.size + 2, 2, none⟩ c_).setCell ⟨w.heap.size + 2, 3, none⟩ d_).cell? ⟨G, 2, none⟩ = some (.bool sk') ∧ ((((w'.setCell ⟨w.heap.size + 2, 0, none⟩ a_).setCell ⟨w.heap.size + 2, 1, none⟩ b_).setCell ⟨w.heap.size + 2, 2, none⟩ c_).setCell ⟨w.heap.size + 2, 3, none⟩ d_).cell? ⟨G, 3, none⟩ = some (.slice A3' n3' c3')) :=
      hide fun w' a_ b_ c_ d_ hb => ⟨((r1.later hb).far4 (by omega) a_ b_ c_ d_).cell rfl, ((r1.later hb).far4 (by omega) a_ b_ c_ d_).cell rfl, ((r1.later hb).far4 (by omega) a_ b_ c_ d_).cell rfl, ((r1.later hb).far4 (by omega) a_ b_ c_ d_).cell rfl, ((r2.later hb).far4 (by omega) a_ b_ c_ d_).cell rfl, ((r2.later hb).far4 (by omega) a_ b_ c_ d_).cell rfl, ((r2.later hb).far4 (by omega) a_ b_ c_ d_).cell rfl, ((r2.later hb).far4 (by omega) a_ b_ c_ d_).cell rfl, ((r0.later hb).far4 (by omega) a_ b_ c_ d_).cell rfl, ((r0.later hb).far4 (by omega) a_ b_ c_ d_).cell rfl, ((r0.later hb).far4 (by omega) a_ b_ c_ d_).cell rfl, ((r0.later hb).far4 (by omega) a_ b_ c_ d_).cell rfl⟩

    have hszd : W0.drew.heap.size = w.heap.size + 3 := hsz
    clear hz0 hz ha hb hq hrow r0 r1 r2 r3 hb0 hW0 SQ SB
    go_enter Tryz.func145, Tryz.ntmps145
    go_upto_region 3 with fail
    rw [← HW0.out]
    clear d1 d2 d3 d4 d5 d6 d7 d8 f1 f2 f3 f4 f5 f6 f7 f8
    have B1 := hide (B0.out.trans D0.out)
    have R3d := hide (R3.out.later D0.out)
    go_region_held3 (fun w' => w'.cell? ⟨w.heap.size, 0, none⟩ = some (.bool sx) ∧ w'.cell? ⟨w.heap.size, 1, none⟩ = some (.slice A1 n1 c1) ∧ w'.cell? ⟨w.heap.size, 2, none⟩ = some (.bool sx') ∧ w'.cell? ⟨w.heap.size, 3, none⟩ = some (.slice A1' n1' c1') ∧ w'.cell? ⟨w.heap.size + 1, 0, none⟩ = some (.bool sy) ∧ w'.cell? ⟨w.heap.size + 1, 1, none⟩ = some (.slice A2 n2 c2) ∧ w'.cell? ⟨w.heap.size + 1, 2, none⟩ = some (.bool sy') ∧ w'.cell? ⟨w.heap.size + 1, 3, none⟩ = some (.slice A2' n2' c2') ∧ w'.cell? ⟨G, 0, none⟩ = some (.bool sk) ∧ w'.cell? ⟨G, 1, none⟩ = some (.slice A3 n3 c3) ∧ w'.cell? ⟨G, 2, none⟩ = some (.bool sk') ∧ w'.cell? ⟨G, 3, none⟩ = some (.slice A3' n3' c3'))
      (first | exact HT1.out _ (Later.refl _) | exact HT1.out _ b1 | exact HT1.out _ (b1.trans b2) | exact HT2.out _ _ _ _ _ (b1.trans b2))
      (first
        | ((with_reducible refine (rmul_calls _ _ _ q b p m (HQ.out.later B1.out) (HB.out.later B1.out) (by omega)).mono ?_); rintro e w1 ⟨v1, rfl, o1, b1⟩; obtain ⟨s1, P1, q1, e1, P1', q1', e1', rfl, o1⟩ := o1.open_; have O1 := hide o1; clear o1)
        | ((with_reducible refine (radd_calls _ _ _ a (q * b) k (p + m + 2) (HA.out.later (B1.out.trans b1)) (O1.out.raw SM.out) (by omega)).mono ?_); rintro e w2 ⟨v2, rfl, o2, b2⟩; obtain ⟨s2, P2, q2, e2, P2', q2', e2', rfl, o2⟩ := o2.open_; have O2 := hide o2; clear o2; obtain ⟨f1, f2, f3, f4, f5, f6, f7, f8⟩ := row_cells4 (R3d.out.later (b1.trans b2))))
    have hL := B1.out.trans (b1.trans b2)
    have HR := hide (R3d.out.later (b1.trans b2))
    have hs1 := b1.size; have hs2 := b2.size
    clear f1 f2 f3 f4 f5 f6 f7 f8
    go_wp2_with fail
    refine bodyPost_ret (results_rat rfl rfl (HR.out.four _ _ _ _)) rfl ?_
    have oo := Only.four (w.heap.size + 2) w2 (.bool s2) (.slice P2 q2 e2) (.bool false) (.slice P2' q2' e2')
    exact ⟨_, rfl, by rw [HZ.out]; exact (O2.out.only oo (by omega)).weaken (by omega), hL.only oo (by omega)⟩

/-- the k-th by k: one and so many times the other -/
def axpyL (a b : List Rat) (q : Rat) : List Rat := List.zipWith (fun x y => x + q * y) a b

set_option maxHeartbeats 2000000 in
theorem addtimes_calls (w : World) (va vb vk : Value) (a b : List Rat) (q : Rat) (k m p : Nat) (ha : Rats (ERaw k) w va a) (hb : Rats (ERaw m) w vb b) (hq : RawR w vk q p) (hlen : a.length = b.length) (hl9 : a.length ≤ 1000000000) (hkm : k + m + p ≤ 100000000) :
    Calls Tryz.prog 98 #[va, vb, vk] w (Ret2 w fun w' v o => OwnRats w' w.heap.size v (axpyL a b q) ∧ o = .bool true) := by
  have HA := hide ha; have HB := hide hb; have HQ := hide hq; have HLEN := hide hlen
  obtain ⟨A0, na, ca, rfl, hna, -⟩ := ha.form
  obtain ⟨B0, nb, cb, rfl, hnb, -⟩ := hb.form
  obtain ⟨sk, A3, n3, c3, sk', A3', n3', c3', rfl⟩ := hq.open_
  have hnn : na = nb := by omega
  subst hnn
  have t1 : ((na : Int) != na) = false := by simp
  clear ha hb hq hlen hna hnb
  go_enter Tryz.func98, Tryz.ntmps98
  go_wp2_with fail
  have hL : Later w (w.alloc (Obj.cells #[Value.bool sk, Value.slice A3 n3 c3, Value.bool sk', Value.slice A3' n3' c3'] 37)) := (Later.refl w).alloc _
  have hrow := Row.new w 37 [.bool sk, .slice A3 n3 c3, .bool sk', .slice A3' n3' c3']
  have HR := hide hrow; have HL := hide hL
  clear hrow hL
  refine (pairs1_calls _ _ _ a b (ERaw k) (ERaw m) ERaw.later ERaw.later (HA.out.later ERaw.later HL.out) (HB.out.later ERaw.later HL.out) (by rw [HLEN.out]; exact Nat.le_refl _) hl9 _ ⟨fun _ _ => by kernel_rfl⟩ w.heap.size (fun x y => x + q * y)
    (fun W vx vy x y hW hx hy _ _ => at1_calls W vx vy x y q k m p hx hy w.heap.size sk sk' A3 A3' n3 c3 n3' c3' (HR.out.later hW) (HQ.out.later (HL.out.trans hW)) hkm)).mono ?_
  rintro e w1 ⟨v1, rfl, o1, b1⟩
  have O1 := hide (OwnRats.weaken o1 HL.out.size); clear o1
  have hLL := HL.out.trans b1
  go_wp2_with fail
  go_ret2
  exact ⟨_, _, rfl, ⟨O1.out, rfl⟩, hLL⟩
end Go.Proofs.YthncinngkfflgaaGreat


/- Rows of fractions: Dot. -/
set_option linter.unusedVariables false
set_option linter.unusedSimpArgs false
set_option maxRecDepth 100000
namespace Go.Proofs.YthncinngkfflgaaGreat
open Go.RowKit Go.Shelf
attribute [local go_sem ↓] Go.wp_at_zero Go.wp_at_succ

/-- the sum -/
def sumR (l : List Rat) : Rat := l.foldl (· + ·) 0
theorem sumR_snoc (l : List Rat) (x : Rat) : sumR (l ++ [x]) = sumR l + x := by simp [sumR, List.foldl_append]
theorem sumR_nil : sumR [] = 0 := rfl
theorem sized_sumR {l : List Rat} {K : Nat} (h : ∀ q ∈ l, Sized q K) : Sized (sumR l) (l.length * (K + 1) + 1) := by
  obtain ⟨r, hr⟩ : ∃ r, r = l.reverse := ⟨_, rfl⟩
  have hl : l = r.reverse := by rw [hr, List.reverse_reverse]
  subst hl
  clear hr
  induction r with
  | nil => exact (Sized.zero 0).mono (by simp)
  | cons x r ih =>
    rw [List.reverse_cons, sumR_snoc]
    refine (Sized.add (ih fun q hq => h q (by rw [List.reverse_cons]; exact List.mem_append_left _ hq)) (h x (by simp))).mono ?_
    simp only [List.length_append, List.length_reverse, List.length_singleton, Nat.add_mul, Nat.one_mul]
    omega
theorem Rats.sized {k : Nat} {w : World} {v : Value} {l : List Rat} (h : Rats (ERaw k) w v l) : ∀ q ∈ l, Sized q (k+1) := by
  intro q hq
  obtain ⟨i, hi⟩ := List.getElem?_of_mem hq
  obtain ⟨A, c, e, -, -, h3⟩ := h
  obtain ⟨b, off, s, A1, n1, c1, s', A2, n2, c2, -, -, -, -, -, hE⟩ := h3 i q hi
  exact RawR.sized hE
theorem sized_zip {a b : List Rat} {k m : Nat} (ha : ∀ q ∈ a, Sized q k) (hb : ∀ q ∈ b, Sized q m) : ∀ q ∈ List.zipWith (fun x y => x * y) a b, Sized q (k + m) := by
  induction a generalizing b with
  | nil => simp
  | cons x a ih => cases b with
    | nil => simp
    | cons y b =>
      intro q hq
      rw [List.zipWith_cons_cons] at hq
      rcases List.mem_cons.1 hq with rfl | hq
      · exact (ha x (List.mem_cons_self ..)).mul (hb y (List.mem_cons_self ..))
      · exact ih (fun q h => ha q (List.mem_cons_of_mem _ h)) (fun q h => hb q (List.mem_cons_of_mem _ h)) q hq
/-- the sum of the products -/
def dotL (a b : List Rat) : Rat := sumR (List.zipWith (fun x y => x * y) a b)

theorem Own32.of_agree {T : TypeId} {w : World} {P : Nat → Prop} {B : Nat} {v : Value} {l : List Nat} (h : On w P (fun W => Own32 T W 0 v l)) (hP : ∀ b, P b → B ≤ b) : Own32 T w B v l := by
  obtain ⟨h1, h2, h3⟩ := h.now
  refine ⟨h1, h2, ?_⟩
  rcases h3 with h3 | ⟨g, cap, cur, rfl, hb, hg, r⟩
  · exact .inl h3
  · refine .inr ⟨g, cap, cur, rfl, ?_, hg, r⟩
    obtain ⟨F, f1, f2⟩ := h
    by_cases hF : F g
    · exact hP g (f1 g hF).1
    · -- the block may be taken away, and the fact must stand all the same: it can't
      exfalso
      have h4 := f2 { w with heap := w.heap.set g (.cells #[] T (0, 1)) (by have := Array.getElem?_eq_some_iff.1 hg; exact this.1) } (fun b hb => by
        have hne : g ≠ b := fun e => hF (e ▸ hb)
        simp [Array.getElem?_set, hne])
      obtain ⟨-, -, h5⟩ := h4
      rcases h5 with ⟨h5, -⟩ | ⟨g', cap', cur', e, hb', hg', r'⟩
      · cases h5
      · injection e with e1 e2 e3
        injection e1 with e1; injection e1 with e1
        subst e1
        simp at hg'
theorem OwnR.of_on {w : World} {P : Nat → Prop} {B : Nat} {v : Value} {q : Rat} (h : On w P (fun W => OwnR W 0 v q)) (hP : ∀ b, P b → B ≤ b) : OwnR w B v q := by
  obtain ⟨A, n, c, A', n', c', e, h1, h2⟩ := h.now
  subst e
  refine ⟨A, n, c, A', n', c', rfl, Own32.of_agree (h.map fun W hW => ?_) hP, Own32.of_agree (h.map fun W hW => ?_) hP⟩
  · have := hW.num.own; exact this
  · have := hW.den.own; rw [Int.natAbs_natCast] at this; exact this
/-- what a round of Dot holds -/
def DotAt (w : World) (g : Nat) (ps : List Rat) (pv : Value) (k : Nat) (wr : World) : Prop :=
  ∃ s A n c A' n' c', Row wr g 37 [.bool s, .slice A n c, .bool false, .slice A' n' c'] ∧ On wr (fun b => w.heap.size < b ∧ b ≠ g) (fun W => OwnR W 0 (.agg #[.bool s, .slice A n c, .bool false, .slice A' n' c']) (sumR (ps.take k))) ∧
    On wr (fun b => w.heap.size < b ∧ b ≠ g) (fun W => Rats EOwn W pv ps) ∧ Row wr w.heap.size 37 [.bool false, .slice none 0 0, .bool false, .slice none 0 0] ∧ Later w wr ∧ w.heap.size < g

set_option maxHeartbeats 4000000 in
theorem dot_calls (w : World) (va vb : Value) (a b : List Rat) (k m : Nat) (ha : Rats (ERaw k) w va a) (hb : Rats (ERaw m) w vb b) (hlen : a.length = b.length) (hsz : (a.length + 1) * (k + m + 4) ≤ 50000000) :
    Calls Tryz.prog 51 #[va, vb] w (Ret2 w fun w' v o => OwnR w' w.heap.size v (dotL a b) ∧ o = .bool true) := by
  have HA := hide ha; have HB := hide hb; have HLEN := hide hlen
  have hKM := Nat.mul_le_mul (Nat.le_add_left 1 a.length) (Nat.le_refl (k + m + 4))
  have hl9 : a.length ≤ 50000000 := by
    have h := Nat.mul_le_mul (Nat.le_add_right a.length 1) (show 1 ≤ k + m + 4 by omega)
    omega
  have hkm : k + m + 4 ≤ 50000000 := by omega
  obtain ⟨A0, na, ca, rfl, hna, -⟩ := ha.form
  obtain ⟨B0, nb, cb, rfl, hnb, -⟩ := hb.form
  have hnn : na = nb := by omega
  subst hnn
  have hna9 : na ≤ 50000000 := by omega
  have t1 : ((na : Int) != na) = false := by simp
  have hSP := sized_zip ha.sized hb.sized
  obtain ⟨ps, hps⟩ : ∃ ps, ps = List.zipWith (fun x y => x * y) a b := ⟨_, rfl⟩
  have hpl : ps.length = na := by rw [hps, List.length_zipWith, ← hlen]; omega
  obtain ⟨z, hz⟩ : ∃ z, z = dotL a b := ⟨_, rfl⟩
  rw [← hz]
  have hz2 : z = sumR ps := by rw [hz, hps]; rfl
  rw [← hps] at hSP
  have HZ := hide hz2; have HPS := hide hps; have HSP := hide hSP; have HPL := hide hpl
  have HSZ : Hid (∀ j, j ≤ na → Sized (sumR (ps.take j)) 50000000 ∧ (ps.take j).length * (k + 1 + (m + 1) + 1) + 1 ≤ 50000000) := hide (by
    intro j hj
    have h1 : (ps.take j).length * (k + 1 + (m + 1) + 1) + 1 ≤ 50000000 := by
      have h2 : (ps.take j).length ≤ a.length := by rw [List.length_take]; omega
      have h3 := Nat.mul_le_mul h2 (show k + 1 + (m + 1) + 1 ≤ k + m + 4 by omega)
      rw [Nat.add_mul] at hsz
      omega
    exact ⟨(sized_sumR (K := k + 1 + (m + 1)) fun q hq => hSP q (List.mem_of_mem_take hq)).mono h1, h1⟩)
  clear ha hb hlen hna hz hz2 hps hSP hpl hnb hsz hKM
  obtain ⟨W0, hW0⟩ : ∃ W0, W0 = w.alloc (Obj.cells #[Value.bool false, Value.slice none 0 0, Value.bool false, Value.slice none 0 0] 37) := ⟨_, rfl⟩
  obtain ⟨hb0, r1, hsz0⟩ := boxes1 w [.bool false, .slice none 0 0, .bool false, .slice none 0 0] 37 hW0
  have R1 := hide r1; have B0' := hide hb0; have HW0 := hide hW0
  clear r1 hb0 hW0
  go_enter Tryz.func51, Tryz.ntmps51
  go_wp2_with fail
  rw [← HW0.out]
  refine (lzero_calls _).mono ?_
  rintro e w1 ⟨v1, rfl, o1, b1⟩
  obtain ⟨s1, P1, q1, e1, P1', q1', e1', rfl, o1⟩ := o1.open_; have O1 := hide o1; clear o1
  have hs1 := b1.size
  go_wp2_with fail
  obtain ⟨V1, hV1⟩ : ∃ V1, V1 = w1.alloc (Obj.cells #[Value.bool s1, Value.slice P1 q1 e1, Value.bool false, Value.slice P1' q1' e1'] 37) := ⟨_, rfl⟩
  have c1' : Later w1 V1 := by rw [hV1]; exact (Later.refl w1).alloc _
  have x1 : Row V1 w1.heap.size 37 [.bool s1, .slice P1 q1 e1, .bool false, .slice P1' q1' e1'] := by rw [hV1]; exact Row.new w1 _ _
  have hsV1 : V1.heap.size = w1.heap.size + 1 := by rw [hV1]; simp
  rw [← hV1]
  have X1 := hide x1; have C1 := hide c1'
  have hL1 := (B0'.out.trans b1).trans c1'
  clear hV1 x1 c1'
  refine (pairs0_calls _ _ _ a b (ERaw k) (ERaw m) ERaw.later ERaw.later (HA.out.later ERaw.later hL1) (HB.out.later ERaw.later hL1) (by rw [HLEN.out]; exact Nat.le_refl _) (by omega) _ ⟨fun _ _ => by kernel_rfl⟩ (fun x y => x * y)
    (fun W vx vy x y hW hx hy _ _ => rmul_calls W vx vy x y k m hx hy (by omega))).mono ?_
  rintro e w2 ⟨v2, rfl, o2, b2⟩
  rw [← HPS.out] at o2
  obtain ⟨P0, np, cp, rfl, hnp, -, -, -⟩ := o2.now.form
  have hnp2 : np = na := by rw [hnp, HPL.out]
  subst hnp2
  have hs2 := b2.size
  have HD : Hid (DotAt w w1.heap.size ps (.slice P0 np cp) 0 w2) := hide ⟨s1, P1, q1, e1, P1', q1', e1', X1.out.later b2, (((On.ownR O1.out).mono (fun b hb hlt => ⟨by omega, by omega⟩)).later C1.out).later b2, On.mono o2 (fun b hb _ => ⟨by omega, by omega⟩), R1.out.later ((b1.trans C1.out).trans b2), hL1.trans b2, by omega⟩
  clear o2 hnp hL1
  go_wp2_with fail
  go_loopw [20] (fun i wr => ∃ j : Nat, j ≤ np ∧ i = .int .i64 (j : Int) ∧ Hid (DotAt w w1.heap.size ps (.slice P0 np cp) j wr)) (fun i _ => (np - intOf i).toNat)
  case atStart => exact ⟨0, by omega, rfl, HD⟩
  case round =>
    obtain ⟨j, hj, rfl, hrel⟩ := hrel
    obtain ⟨s, A, n, c, A', n', c', rg, os, op, r1, hL, hgB⟩ := hrel.out
    by_cases hjn : j < np
    · obtain ⟨x, hx⟩ : ∃ x, ps[j]? = some x := ⟨ps[j]'(by rw [HPL.out]; exact hjn), List.getElem?_eq_getElem _⟩
      obtain ⟨b', off', sx, A1, n1, c1, sx', A2, n2, c2, rfl, x1, x2, x3, x4, ex⟩ := op.now.at_ hx
      have ex' : OwnR wr 0 (.agg #[.bool sx, .slice A1 n1 c1, .bool sx', .slice A2 n2 c2]) x := ex
      have hsx : sx' = false := by have := ex'.den.sign; rw [this]; simp
      subst hsx
      have hln := ex'.num.len
      have hsum : sumR (ps.take (j+1)) = sumR (ps.take j) + x := by
        rw [List.take_add_one, hx]; exact sumR_snoc _ _
      have HSUM := hide hsum; have EX := hide ex'; have RG := hide rg; have OS := hide os; have OP := hide op; have R1' := hide r1; have HL := hide hL
      have hxs := HSP.out x (List.mem_of_getElem? hx)
      have HXS := hide hxs
      have hszj := (HSZ.out j hj).1
      have HSJ := hide hszj
      have hsizes := rg.lt
      have hj0 : (0 : Int) ≤ (j : Int) := by omega
      have hj1 : (j : Int) < np := by omega
      by_cases hz0 : 0 < n1
      · have t2 : decide (0 < n1) = true := by simpa using hz0
        obtain ⟨d1, d2, d3, d4, d5, d6, d7, d8⟩ := row_cells4 (rg.alloc (Obj.cells #[Value.bool sx, Value.slice A1 n1 c1, Value.bool false, Value.slice A2 n2 c2] 37))
        clear rg os op r1 hL hrel hx hln hsum hxs hszj ex ex'
        go_wp2_with fail
        obtain ⟨V2, hV2⟩ : ∃ V, V = wr.alloc (Obj.cells #[Value.bool sx, Value.slice A1 n1 c1, Value.bool false, Value.slice A2 n2 c2] 37) := ⟨_, rfl⟩
        have c2' : Later wr V2 := by rw [hV2]; exact (Later.refl wr).alloc _
        have hsV2 : V2.heap.size = wr.heap.size + 1 := by rw [hV2]; simp
        rw [← hV2]
        clear hV2 d1 d2 d3 d4 d5 d6 d7 d8 x1 x2 x3 x4
        refine (radd_calls _ _ _ (sumR (ps.take j)) x 50000000 (k + 1 + (m + 1)) ((OS.out.now.raw HSJ.out).later c2') ((EX.out.raw HXS.out).later c2') (by omega)).mono ?_
        rintro e w5 ⟨v5, rfl, o5, b5⟩
        obtain ⟨s5, P5, q5, e5, P5', q5', e5', rfl, o5⟩ := o5.open_; have O5 := hide o5; clear o5
        have k5 := c2'.trans b5
        obtain ⟨d1, d2, d3, d4, d5, d6, d7, d8⟩ := row_cells4 (RG.out.later k5)
        have HRG := hide (RG.out.later k5)
        have hs5 := k5.size
        have HD2 : Hid (DotAt w w1.heap.size ps (.slice (some ⟨b', off', none⟩) np cp) (j+1) ((((w5.setCell ⟨w1.heap.size, 0, none⟩ (.bool s5)).setCell ⟨w1.heap.size, 1, none⟩ (.slice P5 q5 e5)).setCell ⟨w1.heap.size, 2, none⟩ (.bool false)).setCell ⟨w1.heap.size, 3, none⟩ (.slice P5' q5' e5'))) := hide (by
          have oo := Only.four w1.heap.size w5 (.bool s5) (.slice P5 q5 e5) (.bool false) (.slice P5' q5' e5')
          refine ⟨_, _, _, _, _, _, _, HRG.out.four _ _ _ _, ?_, (OP.out.later k5).only oo (by simp), (R1'.out.later k5).only oo (by omega), (HL.out.trans k5).only oo (by omega), hgB⟩
          rw [HSUM.out]
          exact ((On.ownR O5.out).mono (fun b hb _ => ⟨by omega, by omega⟩)).only oo (by simp))
        clear k5 c2' b5
        go_wp2_with fail
        exact ⟨⟨j+1, by omega, by go_num, HD2⟩, by simp [intOf]; omega⟩
      · have hn0 : n1 = 0 := by omega
        have hx0 : x = 0 := by
          apply Rat.num_eq_zero.1
          have : limbs x.num.natAbs = [] := List.eq_nil_of_length_eq_zero (by omega)
          have := limbs_eq_nil.1 this
          omega
        subst hn0
        have HD2 : Hid (DotAt w w1.heap.size ps (.slice (some ⟨b', off', none⟩) np cp) (j+1) (wr.alloc (Obj.cells #[Value.bool sx, Value.slice A1 0 c1, Value.bool false, Value.slice A2 n2 c2] 37))) := hide (by
          refine ⟨_, _, _, _, _, _, _, RG.out.alloc _, ?_, OP.out.later ((Later.refl _).alloc _), R1'.out.alloc _, HL.out.alloc _, hgB⟩
          rw [HSUM.out, hx0, Rat.add_zero]
          exact OS.out.later ((Later.refl _).alloc _))
        clear rg os op r1 hL hrel hx hln hsum hxs hszj ex ex' hx0
        go_wp2_with fail
        exact ⟨⟨j+1, by omega, by go_num, HD2⟩, by simp [intOf]; omega⟩
    · obtain rfl : j = np := by omega
      rw [List.take_of_length_le (by rw [HPL.out]; exact Nat.le_refl _), ← HZ.out] at os
      obtain ⟨d1, d2, d3, d4, d5, d6, d7, d8⟩ := row_cells4 rg
      obtain ⟨f1, f2, f3, f4, f5, f6, f7, f8⟩ := row_cells4 r1
      have HR := hide r1; have OS := hide os
      clear rg os op r1 hrel
      go_wp2_with fail
      refine bodyPost_ret (results_rat_bool rfl rfl rfl (HR.out.four _ _ _ _)) rfl ?_
      have oo := Only.four w.heap.size wr (.bool s) (.slice A n c) (.bool false) (.slice A' n' c')
      exact ⟨_, _, rfl, ⟨OwnR.of_on (OS.out.only oo (by omega)) (fun b h => by omega), rfl⟩, hL.only oo (Nat.le_refl _)⟩
end Go.Proofs.YthncinngkfflgaaGreat
