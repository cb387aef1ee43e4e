import Derived.Test.YtkendajmnmchoaaGreatM18
import Derived.Test.YtkendajmnmchoaaGreatM17
import Derived.Test.YtkendajmnmchoaaGreatM15

/- The reference's Solve. -/
set_option linter.unusedVariables false
set_option linter.unusedSimpArgs false
set_option maxRecDepth 100000
namespace Go.Proofs.YtkendajmnmchoaaGreat
open Go.RowKit Go.Shelf
attribute [local go_sem ↓] Go.wp_at_zero Go.wp_at_succ

theorem own_at (w : World) (e : TypeId) (size : Nat) {g : Nat} (hg : g = w.heap.size) : (w.alloc (Obj.cells #[] e)).ownsRow w.heap.size e size (.slice (some ⟨g, 0, none⟩) 0 0) 0 [] := by
  rw [hg]; exact own_empty w e size
section
variable {w : World} {o : Oper} {a : Act} {K : Act → World → Prop} {Q : Exit → Act → World → Prop}
theorem wp_append_rats (s x : Operand) (ho : o.op = .call { callee := .builtin .append, args := #[s, x], argTypes := #[35, 35] })
    {E : Elem} {lo B : Nat} {v vt : Value} {l : List Rat} (hs : a.eval s = v) (hown : w.ownsRow lo 32 4 v 0 []) (hx : a.eval x = vt) (hB : lo ≤ w.heap.size)
    (hsrc : Rats (EOn (fun b => b < B) E) w vt l) (hpos : 0 < l.length) (hlen : l.length ≤ 1000000000) (hBl : B ≤ lo)
    (h : ∀ v' w', OutRats E w' (fun b => b < B) lo v' l → w.grownBy w' v.ownBlock → K (a.put o.dst v') w') : o.wp Tryz.prog a w K Q := by
  obtain ⟨A, n, c, rfl, hn, -, -, h'⟩ := hsrc.form
  obtain ⟨b, off, rfl⟩ : ∃ b off, A = some ⟨b, off, none⟩ := by
    obtain ⟨b, off, _, _, _, _, _, _, _, _, e, -⟩ := h'.at_ (List.getElem?_eq_getElem hpos)
    exact ⟨b, off, e⟩
  obtain ⟨es, h1, h3, ⟨h4a, h4b, h4c⟩, h6⟩ := h'.list hn
  obtain ⟨ad, c2, e5, h4d⟩ : ∃ ad c2, Value.slice (some ⟨b, off, none⟩) n c = .slice (some ad) n c2 ∧ ∀ j u, (es.flatMap fun (e : Bool × Value × Bool × Value) => [Value.bool e.1, e.2.1, Value.bool e.2.2.1, e.2.2.2])[j]? = some u → w.cell? (ad.add j) = some u := by
    rcases h4c with ⟨e5, h0⟩ | h
    · omega
    · exact h
  injection e5 with e5 e6 e7
  injection e5 with e5
  subst e5 e7
  refine wp_append_own_ s x _ ho lo 32 (.agg #[.bool false, .slice none 0 0, .bool false, .slice none 0 0]) 4 64 Tryz.underlying35 info_rat rfl (by omega) (by omega) v 0 [] hs hown ⟨b, off, none⟩ n c _ hx h4a h4d h4b (by omega) hB ?_
  intro v' w' k1 k2 k3
  rw [Nat.zero_add, List.nil_append] at k1
  have hlt := World.ownsRow.lt k1
  have hvl := World.ownsRow.lt hown
  refine h v' w' ⟨es, h1, by rw [← hn]; exact k1, h3, ?_⟩ k2
  have h5 : On w (fun b => b < B) (fun W => ∀ i e, i < es.length → es[i]? = some e → ∀ q, l[i]? = some q → E W (.agg #[.bool e.1, e.2.1, .bool e.2.2.1, e.2.2.2]) q) := On.list_ (T := fun i e W => ∀ q, l[i]? = some q → E W (.agg #[.bool e.1, e.2.1, .bool e.2.2.1, e.2.2.2]) q) es.length (fun i => es[i]?) (fun i e hi he => by
    obtain ⟨q, hq⟩ : ∃ q, l[i]? = some q := ⟨l[i]'(by omega), List.getElem?_eq_getElem _⟩
    refine (show On w (fun b => b < B) _ from h6 i e q he hq).map fun W hW q' hq' => ?_
    rw [hq] at hq'; injection hq' with hq'; rw [← hq']; exact hW)
  refine (h5.beside (P' := fun b => b < B ∧ some b ≠ v'.ownBlock) k2 fun b hb hlt2 => ⟨fun e => by have := (hvl b e.symm).1; omega, hb, fun e => by have := (hlt b e.symm).1; omega⟩).map fun W hW i e q hi hq => hW i e (List.getElem?_eq_some_iff.1 hi).1 hi q hq
end
theorem info_bool : (Tryz.prog.info? 4).map (fun i => (i.zero, i.size, i.bytes)) = some (some (.bool false), 1, 1) := by kernel_rfl
def usedV (u : List Nat) : List Value := u.map fun (x : Nat) => Value.int .i64 (x : Int)
def tkV (tk : List Bool) : List Value := tk.map Value.bool
theorem usedV_start (n : Nat) : List.replicate n (Value.int .i64 0) = usedV (List.replicate n 0) := by simp [usedV]
theorem tkV_start (n : Nat) : List.replicate n (Value.bool false) = tkV (List.replicate n false) := by simp [tkV]
theorem usedV_set (u : List Nat) (c r : Nat) : (usedV u).set c (.int .i64 (r : Int)) = usedV (u.set c r) := by simp [usedV, List.map_set]
theorem tkV_set (tk : List Bool) (r : Nat) : (tkV tk).set r (.bool true) = tkV (tk.set r true) := by simp [tkV, List.map_set]
theorem usedV_at {u : List Nat} {c : Nat} (hc : c < u.length) : (usedV u)[c]? = some (.int .i64 ((u.getD c 0 : Nat) : Int)) := by
  unfold usedV; rw [List.getElem?_map, List.getD_eq_getElem?_getD, List.getElem?_eq_getElem hc]; rfl
theorem tkV_at {tk : List Bool} {i : Nat} (hi : i < tk.length) : (tkV tk)[i]? = some (.bool (tk.getD i false)) := by
  unfold tkV; rw [List.getElem?_map, List.getD_eq_getElem?_getD, List.getElem?_eq_getElem hi]; rfl
theorem Only.grownBy {g : Nat} {w w' : World} (o : Only g w w') : w.grownBy w' (some g) := ⟨o.os, o.tape, o.output, by rw [o.size]; exact Nat.le_refl _, fun b hb hne => o.block b (fun e => hne (by rw [e]))⟩
theorem Rats.form2 {E : Elem} {w : World} {A : Option Addr} {n c : Nat} {l : List Rat} (h : Rats E w (.slice A n c) l) : n = l.length := by
  obtain ⟨_, _, _, e0, e1, -⟩ := h.form
  injection e0 with _ e0 _
  rw [e0, e1]

set_option maxHeartbeats 32000000 in
theorem qsolve_calls (w : World) (va vb : Value) (t : List (List Rat)) (b : List Rat) (k n : Nat) (ha : Tab (ERaw k) w va t) (hb : Rats (ERaw k) w vb b) (hn : t.length = n) (hbl : b.length = n) (hrect : ∀ row ∈ t, row.length = n) (hn9 : n ≤ 100000) (hk : grow k n ≤ 10000000) :
    Calls Tryz.prog 14 #[va, vb] w (SolvePost w n t b (grow k n)) := by
  have hga : ∀ c, c ≤ n → grow k c ≤ 10000000 := fun c hc => Nat.le_trans (grow_mono hc) hk
  have HA := hide ha; have HB := hide hb; have HRECT := hide hrect; have HGA := hide hga
  have HE := hide (Tab.map (E' := EOn (fun b => b < w.heap.size) (ERaw k)) ha fun row _ v q _ h => On.rawR h)
  have hu : rectB t n = true := by unfold rectB; rw [List.all_eq_true]; intro x hx; simpa using hrect x hx
  have HU := hide hu
  have HG0 := hide (goodU_start hn hbl hrect)
  have HAL : Hid ((augT t b).length = n) := hide (by unfold augT; rw [List.length_zipWith]; omega)
  have HTL := hide hn; have HBL := hide hbl
  obtain ⟨A0, nt, ct, rfl, hnt, -, -, -⟩ := ha.form
  obtain ⟨B0, nb, cb, rfl, hnb, -⟩ := hb.form
  have e1 : nt = n := by omega
  have e2 : nb = n := by omega
  clear ha hb hn hbl hrect hga hu hnt hnb hk
  subst e1 e2
  have t1 : ((nb : Int) != nb) = false := by simp
  go_enter Tryz.func14, Tryz.ntmps14
  go_wp2_with fail
  refine (qrect_calls _ _ t (ERaw k) HA.out nb (by rw [HTL.out]; omega) true HU.out).mono ?_
  rintro e w1 ⟨rfl, b1'⟩
  go_wp2_with fail
  go_loopw [7, 8] (fun ov iv wr => ∃ j : Nat, j ≤ nb ∧ iv = .int .i64 (j : Int) ∧ OutTab (ERaw k) wr (fun _ => True) w.heap.size ov ((augT t b).take j) ∧ Later w wr) (fun _ iv _ => (nb - intOf iv).toNat)
  case atStart => exact ⟨0, by omega, rfl, OutTab.nil _ _ _ _, b1'⟩
  case round =>
    obtain ⟨j, hj, rfl, hout, hL⟩ := hrel
    by_cases hjn : j < nb
    · obtain ⟨row, hrj⟩ : ∃ row, t[j]? = some row := ⟨t[j]'(by have := HTL.out; omega), List.getElem?_eq_getElem _⟩
      obtain ⟨x, hxj⟩ : ∃ x, b[j]? = some x := ⟨b[j]'(by have := HBL.out; omega), List.getElem?_eq_getElem _⟩
      obtain ⟨b0, off0, A5, n5, c5, rfl, z0, hrow⟩ := HE.out.at_ hrj
      obtain ⟨b1, off1, sx, A1, n1, c1, sx', A2, n2, c2, rfl, x1, x2, x3, x4, ex⟩ := HB.out.at_ hxj
      have HZ : Hid ((augT t b).take (j+1) = (augT t b).take j ++ [row ++ [x]]) := hide (by rw [List.take_add_one, aug_at, hrj, hxj]; rfl)
      have HROW : Hid (Rats (EOn (fun b => b < w.heap.size) (ERaw k)) wr (.slice A5 n5 c5) row) := hide (hrow.later EOn.later hL)
      have hrowl : row.length = nb := HRECT.out row (List.mem_of_getElem? hrj)
      have hrow0 : 0 < row.length := by omega
      have hrow9 : row.length ≤ 1000000000 := by omega
      have HX : Hid (On wr (fun b => b < w.heap.size) (fun W => ERaw k W (.agg #[.bool sx, .slice A1 n1 c1, .bool sx', .slice A2 n2 c2]) x)) := hide ((On.rawR (show RawR w (.agg #[.bool sx, .slice A1 n1 c1, .bool sx', .slice A2 n2 c2]) x k from ex)).later hL)
      have HS : Hid (∀ w', Later w w' → w'.cell? ⟨b0, off0 + j, none⟩ = some (.slice A5 n5 c5) ∧ w'.cell? ⟨b1, off1 + j * 4, none⟩ = some (.bool sx) ∧ w'.cell? ⟨b1, off1 + j * 4 + 1, none⟩ = some (.slice A1 n1 c1) ∧ w'.cell? ⟨b1, off1 + j * 4 + 2, none⟩ = some (.bool sx') ∧ w'.cell? ⟨b1, off1 + j * 4 + 3, none⟩ = some (.slice A2 n2 c2)) := hide fun w' hb => ⟨Later.cell hb z0, Later.cell hb x1, Later.cell hb x2, Later.cell hb x3, Later.cell hb x4⟩
      have hblt := hout.lt
      have HOUT : Hid (OutTab (ERaw k) wr (fun _ => True) w.heap.size u7 ((augT t b).take j)) := hide hout
      have HL : Hid (Later w wr) := hide hL
      have hj0 : (0 : Int) ≤ (j : Int) := by omega
      have hj1 : (j : Int) < nb := by omega
      have hln : ((augT t b).take j).length ≤ 3000000000 := by rw [List.length_take]; omega
      have hszw : w.heap.size ≤ wr.heap.size := hL.size
      have hszd : wr.drew.heap.size = wr.heap.size := rfl
      have hmx : Tryz.prog.follows .mixedOrders = true := by kernel_rfl
      clear hrow hrj hxj ex hout hL x1 x2 x3 x4 z0
      go_upto_region 8 with fail
      refine wp_region_N (fun w' => w'.cell? ⟨b0, off0 + j, none⟩ = some (.slice A5 n5 c5) ∧ w'.cell? ⟨b1, off1 + j * 4, none⟩ = some (.bool sx) ∧ w'.cell? ⟨b1, off1 + j * 4 + 1, none⟩ = some (.slice A1 n1 c1) ∧ w'.cell? ⟨b1, off1 + j * 4 + 2, none⟩ = some (.bool sx') ∧ w'.cell? ⟨b1, off1 + j * 4 + 3, none⟩ = some (.slice A2 n2 c2)) [] hmx (HS.out _ HL.out.drew) (fun hHeld => ?_)
      refine wpAnyN_take (i := 0) (oi := _) (v := ?_) rfl (by kernel_rfl) (by kernel_rfl) (by kernel_rfl) (by kernel_rfl) (fun _ _ _ h => h) (Or.inl ⟨by rfl, ?_⟩) (by assumption) ?_
      rotate_left
      · intro w hSw; (try dsimp only at hSw); go_simp
        first | done | with_reducible rfl
      try simp only [Act.put, List.setIfInBounds_toArray, List.set_cons_zero, List.set_cons_succ]
      refine wpAnyN_take (i := 2) (oi := _) (v := ?_) rfl (by kernel_rfl) (by kernel_rfl) (by kernel_rfl) (by kernel_rfl) (fun _ _ _ h => h) (Or.inl ⟨by rfl, ?_⟩) (by assumption) ?_
      rotate_left
      · intro w hSw; (try dsimp only at hSw); go_simp
        first | done | with_reducible rfl
      try simp only [Act.put, List.setIfInBounds_toArray, List.set_cons_zero, List.set_cons_succ]
      refine wpAnyN_take (i := 3) (oi := _) (v := ?_) rfl (by kernel_rfl) (by kernel_rfl) (by kernel_rfl) (by kernel_rfl) (fun _ _ _ h => h) (Or.inl ⟨by rfl, ?_⟩) (by assumption) ?_
      rotate_left
      · intro w hSw; (try dsimp only at hSw); go_simp
        first | done | with_reducible rfl
      try simp only [Act.put, List.setIfInBounds_toArray, List.set_cons_zero, List.set_cons_succ]
      refine wpAnyN_take (i := 4) (oi := _) (v := ?_) rfl (by kernel_rfl) (by kernel_rfl) (by kernel_rfl) (by kernel_rfl) (fun _ _ _ h => h) (Or.inl ⟨by rfl, ?_⟩) (by assumption) ?_
      rotate_left
      · intro w hSw; (try dsimp only at hSw); go_simp
        first | done | with_reducible rfl
      try simp only [Act.put, List.setIfInBounds_toArray, List.set_cons_zero, List.set_cons_succ]
      refine wpAnyN_take (i := 5) (oi := _) (v := ?_) rfl (by kernel_rfl) (by kernel_rfl) (by kernel_rfl) (by kernel_rfl) (fun _ _ _ h => h) (Or.inl ⟨by rfl, ?_⟩) (by assumption) ?_
      rotate_left
      · intro w hSw; (try dsimp only at hSw); go_simp
        first | done | with_reducible rfl
      try simp only [Act.put, List.setIfInBounds_toArray, List.set_cons_zero, List.set_cons_succ]
      refine wpAnyN_take (i := 7) (oi := _) (v := ?_) rfl (by kernel_rfl) (by kernel_rfl) (by kernel_rfl) (by kernel_rfl) (fun _ _ _ h => h) (Or.inl ⟨by rfl, ?_⟩) (by assumption) ?_
      rotate_left
      · intro w hSw; (try dsimp only at hSw); go_simp
        first | done | with_reducible rfl
      try simp only [Act.put, List.setIfInBounds_toArray, List.set_cons_zero, List.set_cons_succ]
      refine wpAnyN_take (i := 8) (oi := _) (v := ?_) rfl (by kernel_rfl) (by kernel_rfl) (by kernel_rfl) (by kernel_rfl) (fun _ _ _ h => h) (Or.inl ⟨by rfl, ?_⟩) (by assumption) ?_
      rotate_left
      · intro w hSw; (try dsimp only at hSw); go_simp
        first | done | with_reducible rfl
      try simp only [Act.put, List.setIfInBounds_toArray, List.set_cons_zero, List.set_cons_succ]
      refine wpAnyN_take (i := 9) (oi := _) (v := ?_) rfl (by kernel_rfl) (by kernel_rfl) (by kernel_rfl) (by kernel_rfl) (fun _ _ _ h => h) (Or.inl ⟨by rfl, ?_⟩) (by assumption) ?_
      rotate_left
      · intro w hSw; (try dsimp only at hSw); go_simp
        first | done | with_reducible rfl
      try simp only [Act.put, List.setIfInBounds_toArray, List.set_cons_zero, List.set_cons_succ]
      refine wpAnyN_take (i := 10) (oi := _) (v := ?_) rfl (by kernel_rfl) (by kernel_rfl) (by kernel_rfl) (by kernel_rfl) (fun _ _ _ h => h) (Or.inl ⟨by rfl, ?_⟩) (by assumption) ?_
      rotate_left
      · intro w hSw; (try dsimp only at hSw); go_simp
        first | done | with_reducible rfl
      try simp only [Act.put, List.setIfInBounds_toArray, List.set_cons_zero, List.set_cons_succ]
      refine wpAnyN_ready (rs := [1, 11]) (by kernel_rfl) (by simp) ?_
      refine AllReadyN.held rfl (by rfl) (fun K hK => ?_) ?_
      · go_simp
        refine hK.out _ _ ?_ (fun hHeld => ?_)
        · exact HS.out _ (HL.out.trans ((Later.refl wr).alloc _).drew)
        clear hK K
        try simp only [Act.put, List.setIfInBounds_toArray, List.set_cons_zero, List.set_cons_succ]
        refine wpAnyN_ready (rs := [6, 11]) (by kernel_rfl) (by simp) ?_
        refine AllReadyN.held rfl (by rfl) (fun K hK => ?_) ?_
        · have hown1 : World.ownsRow ((wr.alloc (Obj.cells #[] 32)).drew) wr.heap.size 32 4 (.slice (some ⟨wr.heap.size, 0, none⟩) 0 0) 0 [] := show World.ownsRow (wr.alloc (Obj.cells #[] 32)) wr.heap.size 32 4 (.slice (some ⟨wr.heap.size, 0, none⟩) 0 0) 0 [] from own_empty wr _ _
          refine wp_append_rats _ _ rfl (by rfl) hown1 (by rfl) (Later.size_le ((Later.refl wr).alloc _).drew) (HROW.out.later EOn.later ((Later.refl wr).alloc _).drew) hrow0 hrow9 hszw ?_
          intro v6 w6 hout6 hg6
          have kA : Later wr w6 := Later.grown ((Later.refl wr).alloc _).drew hg6 (fun k hk => (World.ownsRow.lt hown1 k hk).1)
          have hlt6 := hout6.lt
          have HO6 := hide hout6
          clear hout6 hg6 hown1
          refine hK.out _ _ ?_ (fun hHeld => ?_)
          · (first | exact HS.out _ (HL.out.trans kA) | exact HS.out _ (HL.out.trans (kA.alloc _)))
          clear hK K
          try simp only [Act.put, List.setIfInBounds_toArray, List.set_cons_zero, List.set_cons_succ]
          refine wpAnyN_ready (rs := [11]) (by kernel_rfl) (by simp) ?_
          refine AllReadyN.held rfl (by rfl) (fun K hK => ?_) AllReadyN.nil
          go_simp
          refine hK.out _ _ ?_ (fun hHeld => ?_)
          · (first | exact HS.out _ (HL.out.trans kA) | exact HS.out _ (HL.out.trans (kA.alloc _)))
          clear hK K
          try simp only [Act.put, List.setIfInBounds_toArray, List.set_cons_zero, List.set_cons_succ]
          refine wpAnyN_ready (rs := [12]) (by kernel_rfl) (by simp) ?_
          refine AllReadyN.held rfl (by rfl) (fun K hK => ?_) AllReadyN.nil
          refine wp_append_rat _ _ rfl (by rfl) (HO6.out.later ((Later.refl _).alloc _)) (by rfl) (Row.new w6 _ _) ((On.mono HX.out (fun b hb hlt => ⟨hb, fun e => by have := (hlt6 _ e.symm).1; omega⟩)).later (kA.alloc _)) (by omega) (Later.size_le (kA.alloc _)) ?_
          intro v12 w12 hout12 hg12
          have kB : Later wr w12 := Later.grown (kA.alloc _) hg12 (fun k hk => (hlt6 k hk).1)
          obtain ⟨A12, n12, c12, rfl, -⟩ := hout12.rats.now.form
          have HO12 := hide ((hout12.rats).mono (P' := fun b => b < w.heap.size ∨ wr.heap.size ≤ b) (fun b hb hlt => hb))
          clear hout12 hg12
          refine hK.out _ _ ?_ (fun hHeld => ?_)
          · (first | exact HS.out _ (HL.out.trans kB) | exact HS.out _ (HL.out.trans (kB.alloc _)))
          clear hK K
          try simp only [Act.put, List.setIfInBounds_toArray, List.set_cons_zero, List.set_cons_succ]
          refine wpAnyN_ready (rs := [13]) (by kernel_rfl) (by simp) ?_
          refine AllReadyN.held rfl (by rfl) (fun K hK => ?_) AllReadyN.nil
          go_simp
          refine hK.out _ _ ?_ (fun hHeld => ?_)
          · (first | exact HS.out _ (HL.out.trans kB) | exact HS.out _ (HL.out.trans (kB.alloc _)))
          clear hK K
          try simp only [Act.put, List.setIfInBounds_toArray, List.set_cons_zero, List.set_cons_succ]
          refine wpAnyN_ready (rs := [14]) (by kernel_rfl) (by simp) ?_
          refine AllReadyN.held rfl (by rfl) (fun K hK => ?_) AllReadyN.nil
          refine wp_append_row _ _ rfl (by rfl) (HOUT.out.later (kB.alloc _)) (by rfl) (Row.new w12 _ _) ((HO12.out.mono (fun b hb hlt => ⟨trivial, fun e => by have := hblt _ e.symm; rcases hb with hb | hb <;> omega⟩)).later ((Later.refl _).alloc _)) hln (Nat.le_trans hszw (Later.size_le (kB.alloc _))) ?_
          intro v14 w14 hout14 hg14
          have HO14 := hide hout14
          have kC : Later w w14 := Later.grown (HL.out.trans (kB.alloc _)) hg14 (fun k hk => (hblt k hk).1)
          clear hout14 hg14
          refine hK.out _ _ ?_ (fun hHeld => ?_)
          · exact HS.out _ kC
          clear hK K
          try simp only [Act.put, List.setIfInBounds_toArray, List.set_cons_zero, List.set_cons_succ]
          refine wpAnyN_take (i := 15) (oi := _) (v := ?_) rfl (by kernel_rfl) (by kernel_rfl) (by kernel_rfl) (by kernel_rfl) (fun _ _ _ h => h) (Or.inl ⟨by rfl, ?_⟩) (by assumption) ?_
          rotate_left
          · intro w hSw; (try dsimp only at hSw); go_simp
            first | done | with_reducible rfl
          try simp only [Act.put, List.setIfInBounds_toArray, List.set_cons_zero, List.set_cons_succ]
          refine wpAnyN_done (by kernel_rfl) ?_ _
          have HO : Hid (OutTab (ERaw k) w14 (fun _ => True) w.heap.size v14 ((augT t b).take (j+1))) := hide (by rw [HZ.out]; exact HO14.out)
          have KC := hide kC
          clear hHeld kA kB kC
          go_wp2_with fail
          exact ⟨⟨j+1, by omega, by go_num, HO.out, KC.out⟩, by simp [intOf]; omega⟩
        refine AllReadyN.held rfl (by rfl) (fun K hK => ?_) AllReadyN.nil
        go_simp
        refine hK.out _ _ ?_ (fun hHeld => ?_)
        · exact HS.out _ (HL.out.trans (((Later.refl wr).alloc _).alloc _).drew)
        clear hK K
        try simp only [Act.put, List.setIfInBounds_toArray, List.set_cons_zero, List.set_cons_succ]
        refine wpAnyN_ready (rs := [6]) (by kernel_rfl) (by simp) ?_
        refine AllReadyN.held rfl (by rfl) (fun K hK => ?_) AllReadyN.nil
        have hown1 : World.ownsRow (((wr.alloc (Obj.cells #[] 32)).alloc (Obj.cells #[Value.bool sx, Value.slice A1 n1 c1, Value.bool sx', Value.slice A2 n2 c2] 32)).drew) wr.heap.size 32 4 (.slice (some ⟨wr.heap.size, 0, none⟩) 0 0) 0 [] := show World.ownsRow ((wr.alloc (Obj.cells #[] 32)).alloc (Obj.cells #[Value.bool sx, Value.slice A1 n1 c1, Value.bool sx', Value.slice A2 n2 c2] 32)) wr.heap.size 32 4 (.slice (some ⟨wr.heap.size, 0, none⟩) 0 0) 0 [] from ownsRow_later (own_empty wr _ _) ((Later.refl _).alloc _)
        refine wp_append_rats _ _ rfl (by rfl) hown1 (by rfl) (Later.size_le (((Later.refl wr).alloc _).alloc _).drew) (HROW.out.later EOn.later (((Later.refl wr).alloc _).alloc _).drew) hrow0 hrow9 hszw ?_
        intro v6 w6 hout6 hg6
        have kA : Later wr w6 := Later.grown (((Later.refl wr).alloc _).alloc _).drew hg6 (fun k hk => (World.ownsRow.lt hown1 k hk).1)
        have hlt6 := hout6.lt
        have HO6 := hide hout6
        have RX0 : Row (((wr.alloc (Obj.cells #[] 32)).alloc (Obj.cells #[Value.bool sx, Value.slice A1 n1 c1, Value.bool sx', Value.slice A2 n2 c2] 32)).drew) (wr.heap.size + 1) 32 [.bool sx, .slice A1 n1 c1, .bool sx', .slice A2 n2 c2] := by have h := (Row.new (wr.alloc (Obj.cells #[] 32)) 32 [.bool sx, .slice A1 n1 c1, .bool sx', .slice A2 n2 c2]).drew; rw [World.size_alloc] at h; exact h
        have RX : Row w6 (wr.heap.size + 1) 32 [.bool sx, .slice A1 n1 c1, .bool sx', .slice A2 n2 c2] := RX0.grown hg6 (fun e => by (have e2 : some (wr.heap.size + 1) = some wr.heap.size := e); injection e2 with e2; omega)
        clear RX0
        clear hout6 hg6 hown1
        refine hK.out _ _ ?_ (fun hHeld => ?_)
        · (first | exact HS.out _ (HL.out.trans kA) | exact HS.out _ (HL.out.trans (kA.alloc _)))
        clear hK K
        try simp only [Act.put, List.setIfInBounds_toArray, List.set_cons_zero, List.set_cons_succ]
        refine wpAnyN_ready (rs := [12]) (by kernel_rfl) (by simp) ?_
        refine AllReadyN.held rfl (by rfl) (fun K hK => ?_) AllReadyN.nil
        refine wp_append_rat _ _ rfl (by rfl) (HO6.out) (by rfl) (RX) ((On.mono HX.out (fun b hb hlt => ⟨hb, fun e => by have := (hlt6 _ e.symm).1; omega⟩)).later kA) (by omega) (Later.size_le kA) ?_
        intro v12 w12 hout12 hg12
        have kB : Later wr w12 := Later.grown kA hg12 (fun k hk => (hlt6 k hk).1)
        obtain ⟨A12, n12, c12, rfl, -⟩ := hout12.rats.now.form
        have HO12 := hide ((hout12.rats).mono (P' := fun b => b < w.heap.size ∨ wr.heap.size ≤ b) (fun b hb hlt => hb))
        clear hout12 hg12
        refine hK.out _ _ ?_ (fun hHeld => ?_)
        · (first | exact HS.out _ (HL.out.trans kB) | exact HS.out _ (HL.out.trans (kB.alloc _)))
        clear hK K
        try simp only [Act.put, List.setIfInBounds_toArray, List.set_cons_zero, List.set_cons_succ]
        refine wpAnyN_ready (rs := [13]) (by kernel_rfl) (by simp) ?_
        refine AllReadyN.held rfl (by rfl) (fun K hK => ?_) AllReadyN.nil
        go_simp
        refine hK.out _ _ ?_ (fun hHeld => ?_)
        · (first | exact HS.out _ (HL.out.trans kB) | exact HS.out _ (HL.out.trans (kB.alloc _)))
        clear hK K
        try simp only [Act.put, List.setIfInBounds_toArray, List.set_cons_zero, List.set_cons_succ]
        refine wpAnyN_ready (rs := [14]) (by kernel_rfl) (by simp) ?_
        refine AllReadyN.held rfl (by rfl) (fun K hK => ?_) AllReadyN.nil
        refine wp_append_row _ _ rfl (by rfl) (HOUT.out.later (kB.alloc _)) (by rfl) (Row.new w12 _ _) ((HO12.out.mono (fun b hb hlt => ⟨trivial, fun e => by have := hblt _ e.symm; rcases hb with hb | hb <;> omega⟩)).later ((Later.refl _).alloc _)) hln (Nat.le_trans hszw (Later.size_le (kB.alloc _))) ?_
        intro v14 w14 hout14 hg14
        have HO14 := hide hout14
        have kC : Later w w14 := Later.grown (HL.out.trans (kB.alloc _)) hg14 (fun k hk => (hblt k hk).1)
        clear hout14 hg14
        refine hK.out _ _ ?_ (fun hHeld => ?_)
        · exact HS.out _ kC
        clear hK K
        try simp only [Act.put, List.setIfInBounds_toArray, List.set_cons_zero, List.set_cons_succ]
        refine wpAnyN_take (i := 15) (oi := _) (v := ?_) rfl (by kernel_rfl) (by kernel_rfl) (by kernel_rfl) (by kernel_rfl) (fun _ _ _ h => h) (Or.inl ⟨by rfl, ?_⟩) (by assumption) ?_
        rotate_left
        · intro w hSw; (try dsimp only at hSw); go_simp
          first | done | with_reducible rfl
        try simp only [Act.put, List.setIfInBounds_toArray, List.set_cons_zero, List.set_cons_succ]
        refine wpAnyN_done (by kernel_rfl) ?_ _
        have HO : Hid (OutTab (ERaw k) w14 (fun _ => True) w.heap.size v14 ((augT t b).take (j+1))) := hide (by rw [HZ.out]; exact HO14.out)
        have KC := hide kC
        clear hHeld kA kB kC
        go_wp2_with fail
        exact ⟨⟨j+1, by omega, by go_num, HO.out, KC.out⟩, by simp [intOf]; omega⟩
      refine AllReadyN.held rfl (by rfl) (fun K hK => ?_) AllReadyN.nil
      go_simp
      refine hK.out _ _ ?_ (fun hHeld => ?_)
      · exact HS.out _ (HL.out.trans ((Later.refl wr).alloc _).drew)
      clear hK K
      try simp only [Act.put, List.setIfInBounds_toArray, List.set_cons_zero, List.set_cons_succ]
      refine wpAnyN_ready (rs := [1]) (by kernel_rfl) (by simp) ?_
      refine AllReadyN.held rfl (by rfl) (fun K hK => ?_) AllReadyN.nil
      go_simp
      refine hK.out _ _ ?_ (fun hHeld => ?_)
      · exact HS.out _ (HL.out.trans (((Later.refl wr).alloc _).alloc _).drew)
      clear hK K
      try simp only [Act.put, List.setIfInBounds_toArray, List.set_cons_zero, List.set_cons_succ]
      refine wpAnyN_ready (rs := [6]) (by kernel_rfl) (by simp) ?_
      refine AllReadyN.held rfl (by rfl) (fun K hK => ?_) AllReadyN.nil
      have hown1 : World.ownsRow (((wr.alloc (Obj.cells #[Value.bool sx, Value.slice A1 n1 c1, Value.bool sx', Value.slice A2 n2 c2] 32)).alloc (Obj.cells #[] 32)).drew) wr.heap.size 32 4 (.slice (some ⟨(wr.heap.size + 1), 0, none⟩) 0 0) 0 [] := show World.ownsRow ((wr.alloc (Obj.cells #[Value.bool sx, Value.slice A1 n1 c1, Value.bool sx', Value.slice A2 n2 c2] 32)).alloc (Obj.cells #[] 32)) wr.heap.size 32 4 (.slice (some ⟨(wr.heap.size + 1), 0, none⟩) 0 0) 0 [] from ownsRow_weaken (own_at (wr.alloc _) _ _ (by rw [World.size_alloc])) (by rw [World.size_alloc]; omega)
      refine wp_append_rats _ _ rfl (by rfl) hown1 (by rfl) (Later.size_le (((Later.refl wr).alloc _).alloc _).drew) (HROW.out.later EOn.later (((Later.refl wr).alloc _).alloc _).drew) hrow0 hrow9 hszw ?_
      intro v6 w6 hout6 hg6
      have kA : Later wr w6 := Later.grown (((Later.refl wr).alloc _).alloc _).drew hg6 (fun k hk => (World.ownsRow.lt hown1 k hk).1)
      have hlt6 := hout6.lt
      have HO6 := hide hout6
      have RX0 : Row (((wr.alloc (Obj.cells #[Value.bool sx, Value.slice A1 n1 c1, Value.bool sx', Value.slice A2 n2 c2] 32)).alloc (Obj.cells #[] 32)).drew) wr.heap.size 32 [.bool sx, .slice A1 n1 c1, .bool sx', .slice A2 n2 c2] := ((Row.new wr 32 [.bool sx, .slice A1 n1 c1, .bool sx', .slice A2 n2 c2]).alloc _).drew
      have RX : Row w6 wr.heap.size 32 [.bool sx, .slice A1 n1 c1, .bool sx', .slice A2 n2 c2] := RX0.grown hg6 (fun e => by (have e2 : some wr.heap.size = some (wr.heap.size + 1) := e); injection e2 with e2; omega)
      clear RX0
      clear hout6 hg6 hown1
      refine hK.out _ _ ?_ (fun hHeld => ?_)
      · (first | exact HS.out _ (HL.out.trans kA) | exact HS.out _ (HL.out.trans (kA.alloc _)))
      clear hK K
      try simp only [Act.put, List.setIfInBounds_toArray, List.set_cons_zero, List.set_cons_succ]
      refine wpAnyN_ready (rs := [12]) (by kernel_rfl) (by simp) ?_
      refine AllReadyN.held rfl (by rfl) (fun K hK => ?_) AllReadyN.nil
      refine wp_append_rat _ _ rfl (by rfl) (HO6.out) (by rfl) (RX) ((On.mono HX.out (fun b hb hlt => ⟨hb, fun e => by have := (hlt6 _ e.symm).1; omega⟩)).later kA) (by omega) (Later.size_le kA) ?_
      intro v12 w12 hout12 hg12
      have kB : Later wr w12 := Later.grown kA hg12 (fun k hk => (hlt6 k hk).1)
      obtain ⟨A12, n12, c12, rfl, -⟩ := hout12.rats.now.form
      have HO12 := hide ((hout12.rats).mono (P' := fun b => b < w.heap.size ∨ wr.heap.size ≤ b) (fun b hb hlt => hb))
      clear hout12 hg12
      refine hK.out _ _ ?_ (fun hHeld => ?_)
      · (first | exact HS.out _ (HL.out.trans kB) | exact HS.out _ (HL.out.trans (kB.alloc _)))
      clear hK K
      try simp only [Act.put, List.setIfInBounds_toArray, List.set_cons_zero, List.set_cons_succ]
      refine wpAnyN_ready (rs := [13]) (by kernel_rfl) (by simp) ?_
      refine AllReadyN.held rfl (by rfl) (fun K hK => ?_) AllReadyN.nil
      go_simp
      refine hK.out _ _ ?_ (fun hHeld => ?_)
      · (first | exact HS.out _ (HL.out.trans kB) | exact HS.out _ (HL.out.trans (kB.alloc _)))
      clear hK K
      try simp only [Act.put, List.setIfInBounds_toArray, List.set_cons_zero, List.set_cons_succ]
      refine wpAnyN_ready (rs := [14]) (by kernel_rfl) (by simp) ?_
      refine AllReadyN.held rfl (by rfl) (fun K hK => ?_) AllReadyN.nil
      refine wp_append_row _ _ rfl (by rfl) (HOUT.out.later (kB.alloc _)) (by rfl) (Row.new w12 _ _) ((HO12.out.mono (fun b hb hlt => ⟨trivial, fun e => by have := hblt _ e.symm; rcases hb with hb | hb <;> omega⟩)).later ((Later.refl _).alloc _)) hln (Nat.le_trans hszw (Later.size_le (kB.alloc _))) ?_
      intro v14 w14 hout14 hg14
      have HO14 := hide hout14
      have kC : Later w w14 := Later.grown (HL.out.trans (kB.alloc _)) hg14 (fun k hk => (hblt k hk).1)
      clear hout14 hg14
      refine hK.out _ _ ?_ (fun hHeld => ?_)
      · exact HS.out _ kC
      clear hK K
      try simp only [Act.put, List.setIfInBounds_toArray, List.set_cons_zero, List.set_cons_succ]
      refine wpAnyN_take (i := 15) (oi := _) (v := ?_) rfl (by kernel_rfl) (by kernel_rfl) (by kernel_rfl) (by kernel_rfl) (fun _ _ _ h => h) (Or.inl ⟨by rfl, ?_⟩) (by assumption) ?_
      rotate_left
      · intro w hSw; (try dsimp only at hSw); go_simp
        first | done | with_reducible rfl
      try simp only [Act.put, List.setIfInBounds_toArray, List.set_cons_zero, List.set_cons_succ]
      refine wpAnyN_done (by kernel_rfl) ?_ _
      have HO : Hid (OutTab (ERaw k) w14 (fun _ => True) w.heap.size v14 ((augT t b).take (j+1))) := hide (by rw [HZ.out]; exact HO14.out)
      have KC := hide kC
      clear hHeld kA kB kC
      go_wp2_with fail
      exact ⟨⟨j+1, by omega, by go_num, HO.out, KC.out⟩, by simp [intOf]; omega⟩

    · obtain rfl : nb = j := by omega
      rw [List.take_of_length_le (by rw [HAL.out]; exact Nat.le_refl _)] at hout
      have HOUT := hide hout; have HLR := hide hL
      clear hout hL
      have hmxl : nb ≤ maxLen := by unfold maxLen; omega
      go_upto_region 10 with (at_make; refine wpList_make_row rfl (.tmp 48) (.tmp 48) _ rfl 3 (.int .i64 0) 8 Tryz.underlying56 info_int rfl _ _ _ _ nb rfl rfl rfl rfl (by omega) hmxl ?_; intro g9 w3 hg9 hr9 hb3)
      rw [usedV_start] at hr9
      have hg93 := hr9.lt
      have HR93 := hide hr9; have HB3 := hide hb3
      clear hr9 hb3
      go_upto_region 11 with (at_make; refine wpList_make_row rfl (.tmp 50) (.tmp 50) _ rfl 4 (.bool false) 1 Tryz.underlying57 info_bool rfl _ _ _ _ nb rfl rfl rfl rfl (by omega) hmxl ?_; intro g10 w4 hg10 hr10 hb4)
      rw [tkV_start] at hr10
      have hg104 := hr10.lt
      have HR9 := hide (HR93.out.later hb4); have HR10 := hide hr10
      have hws := HLR.out.size_le; have hrs := HB3.out.size_le; have h4s := hb4.size_le
      have hne : g9 ≠ g10 := by omega
      have HT0 : Hid (On w4 (fun b => b ≠ g9 ∧ b ≠ g10) (fun X => Tab (ERaw (grow k 0)) X u7 (augT t b))) := hide (On.later (On.mono HOUT.out.tab (fun b _ hlt => ⟨by omega, by omega⟩)) (HB3.out.trans hb4))
      have HL4 := hide (HLR.out.trans (HB3.out.trans hb4))
      clear hr10 hb4 HR93
      go_wp2_with fail
      go_loopw [7, 11] (fun v cv wr => ∃ c : Nat, c ≤ nb ∧ cv = .int .i64 (c : Int) ∧ ∃ W u tk, Hid (GoodU nb t b c W u) ∧ Hid (TakenL nb c u tk) ∧ Hid (On wr (fun b => b ≠ g9 ∧ b ≠ g10) (fun X => Tab (ERaw (grow k c)) X v W)) ∧ Hid (0 < c → OutTab EOwn wr (fun b => w.heap.size ≤ b ∧ b ≠ g9 ∧ b ≠ g10) w4.heap.size v W) ∧ Hid (∀ row ∈ W, ∀ q ∈ row, Sized q (grow k c + 1)) ∧ Hid (Row wr g9 3 (usedV u)) ∧ Hid (Row wr g10 4 (tkV tk)) ∧ Hid (Later w wr) ∧ w4.heap.size ≤ wr.heap.size) (fun _ cv _ => (nb - intOf cv).toNat)
      case atStart => exact ⟨0, by omega, rfl, augT t b, _, _, hide (HG0.out _), hide (taken_start nb), HT0, hide (fun h => by omega), hide HOUT.out.tab.now.sized, HR9, HR10, HL4, Nat.le_refl _⟩
      case round =>
        obtain ⟨c, hc, rfl, W, u, tk, hgood, htk, ht1, ht2, hsz, hr9, hr10, hL, hsw⟩ := hrel
        obtain ⟨wo, hwo⟩ : ∃ wo, wo = wr := ⟨_, rfl⟩
        rw [← hwo] at ht1 ht2 hr9 hr10 hL hsw ⊢
        clear hwo wr HT0 HR9 HR10 HOUT
        have hWl := hgood.out.len
        have hWr := hgood.out.rect
        obtain ⟨A7, n7, c7, rfl, hn7, -⟩ := ht1.out.now.form
        have hn7' : nb = n7 := by omega
        subst hn7'
        have HWL := hide hWl; have HWR := hide hWr
        have hk9 := HGA.out c hc
        have HTAB : Hid (∀ X, Later wo X → Tab (ERaw (grow k c)) X (.slice A7 nb c7) W) := hide fun X hX => (ht1.out.later hX).now
        clear hWl hWr hn7
        by_cases hcn : c < nb
        · have hc0 : (0 : Int) ≤ (c : Int) := by omega
          have hc1 : (c : Int) < (nb : Int) := by omega
          have hcn1 : (c : Int) < ((nb + 1 : Nat) : Int) := by omega
          go_wp2_with fail
          go_loopw [12, 13] (fun rv iv wi => ∃ p : Nat, p ≤ nb ∧ iv = .int .i64 ((p : Int) - 1) ∧ ∃ r : Int, rv = .int .i64 r ∧ Hid (Found W tk c p nb r) ∧ Later wo wi) (fun _ iv _ => (intOf iv + 1).toNat)
          case atStart => exact ⟨nb, by omega, rfl, -1, rfl, hide (found_start W tk c nb), Later.refl _⟩
          case round =>
            obtain ⟨p, hp, rfl, r, rfl, hF, hi⟩ := hrel
            have HI := hide hi
            have hr10i := hr10.out.later hi
            have hr9i := hr9.out.later hi
            by_cases hp0 : p = 0
            · subst hp0
              rw [show (((0 : Nat) : Int)) - 1 = -1 from rfl]
              rcases hF.out with ⟨rfl, hnone⟩ | ⟨i, rfl, hin, htf, hne0⟩
              · have hsing := goodU_stuck hgood.out hcn (fun i hi hne => hnone i (by omega) hi (by
                  rw [Bool.eq_false_iff]
                  intro e
                  obtain ⟨kk, h1, h2⟩ := (htk.out.2.2 i hi).1 e
                  exact hne kk h1 h2))
                have HS := hide hsing
                clear hnone hsing hF hr10i hr9i hi
                go_wp2_with fail
                go_ret2
                exact ⟨_, false, rfl, hL.out.trans HI.out, .inl ⟨rfl, rfl, HS.out⟩⟩
              · have htl := htk.out.1; have hul := htk.out.2.1
                have s1 := hr10i.cell (i := i) (tkV_at (by omega))
                have f1 := hr10i.frozen i
                have s2 := fun x => (hr9i.far (p := ⟨g10, i, none⟩) hne x).cell (i := c) (usedV_at (by omega))
                have f2 := fun x => (hr9i.far (p := ⟨g10, i, none⟩) hne x).frozen c
                have hi0 : (0 : Int) ≤ (i : Int) := by omega
                have hi1 : (i : Int) < (nb : Int) := by omega
                have HR9I := hide hr9i; have HR10I := hide hr10i; have HNE0 := hide hne0; have HTF := hide htf; have HTK := hide htk.out; have HGD := hide hgood.out
                clear hr9i hr10i hne0 htf hF hi htl hul
                go_wp2_with fail
                obtain ⟨w6, hw6⟩ : ∃ w6, w6 = (wr.setCell ⟨g10, i, none⟩ (.bool true)).setCell ⟨g9, c, none⟩ (.int .i64 (i : Int)) := ⟨_, rfl⟩
                have HR96 : Hid (Row w6 g9 3 (usedV (u.set c i))) := hide (by rw [hw6, ← usedV_set]; exact (HR9I.out.far (p := ⟨g10, i, none⟩) hne _).set_ c _)
                have HR106 : Hid (Row w6 g10 4 (tkV (tk.set i true))) := hide (by rw [hw6, ← tkV_set]; exact (HR10I.out.set_ i _).far (p := ⟨g9, c, none⟩) (fun e => hne e.symm) _)
                have HT6 : Hid (Tab (ERaw (grow k c)) w6 (.slice A7 nb c7) W) := hide (by rw [hw6]; exact (((ht1.out.later HI.out).only (Only.one g10 wr i _) (fun h => h.2 rfl)).only (Only.one g9 _ c _) (fun h => h.1 rfl)).now)
                have HL6 : Hid (Later w w6) := hide (by rw [hw6]; exact (((hL.out.trans HI.out).setCell (show w.heap.size ≤ g10 by omega) _).setCell (show w.heap.size ≤ g9 by omega) _))
                have hs6 : w6.heap.size = wr.heap.size := by rw [hw6]; simp
                have hsi := HI.out.size_le
                rw [← hw6]
                clear hw6 s1 f1 s2 f2
                obtain ⟨row, hrow⟩ : ∃ row, W[i]? = some row := ⟨W[i]'(by have := HWL.out; omega), List.getElem?_eq_getElem _⟩
                have hgr : W.getD i [] = row := getD_of hrow
                have hrl : row.length = nb + 1 := HWR.out row (List.mem_of_getElem? hrow)
                have HPC := hide (qpivot_calls w6 _ W (grow k c) i c HT6.out (by rw [HWL.out]; exact hin) (by rw [HWL.out]; omega) (fun r hr => by rw [hgr, hrl]; exact HWR.out r hr) (by rw [hgr, hrl]; omega) (by rw [hgr, hrl]; omega) HNE0.out hk9)
                have HG1 := hide (goodU_step HGD.out hcn HTK.out.2.1 hin (fun kk h1 h2 => by
                  have := (HTK.out.2.2 i hin).2 ⟨kk, h1, h2⟩
                  rw [HTF.out] at this; cases this) HNE0.out)
                have HK1 := hide (taken_step HTK.out hcn hin)
                have HS1 := hide (sized_pivL (k := grow k c) (c := c) hsz.out (by rw [HWL.out]; exact hin) (fun r hr => by rw [HWR.out r hr]; omega))
                clear hrow hgr hrl
                refine HPC.out.mono ?_
                rintro e w7 ⟨v7, o7, rfl, ⟨ht7, rfl⟩, b7⟩
                have hs7 := b7.size_le
                have HT7 : Hid (On w7 (fun b => b ≠ g9 ∧ b ≠ g10) (fun X => Tab (ERaw (grow k (c+1))) X v7 (pivL W i c))) := hide ((ht7.tab.mono (P' := fun b => b ≠ g9 ∧ b ≠ g10) (fun b hb _ => by
                  have hb2 : w6.heap.size ≤ b := by rcases hb with h | h <;> exact h
                  exact ⟨by omega, by omega⟩)).map fun X hX => hX.map (fun row hr v q hq he => OwnR.raw (B := 0) he (HS1.out row hr q hq)))
                have HO7 : Hid (0 < c + 1 → OutTab EOwn w7 (fun b => w.heap.size ≤ b ∧ b ≠ g9 ∧ b ≠ g10) w4.heap.size v7 (pivL W i c)) := hide fun _ => (ht7.mono (fun b hb _ => ⟨by omega, by omega, by omega⟩)).weaken (by omega)
                have HR97 := hide (HR96.out.later b7); have HR107 := hide (HR106.out.later b7); have HL7 := hide (HL6.out.trans b7)
                have hs47 : w4.heap.size ≤ w7.heap.size := by omega
                have HS7 : Hid (∀ row ∈ pivL W i c, ∀ q ∈ row, Sized q (grow k (c+1) + 1)) := hide fun row hr q hq => (HS1.out row hr q hq).mono (by simp only [grow]; omega)
                clear ht7 b7
                go_wp2_with fail
                exact ⟨⟨c+1, by omega, by go_num, _, _, _, HG1, HK1, HT7, HO7, HS7, HR97, HR107, HL7, hs47⟩, by simp [intOf]; omega⟩
            · obtain ⟨p', rfl⟩ : ∃ p', p = p' + 1 := ⟨p - 1, by omega⟩
              have hpe : (((p' + 1 : Nat) : Int)) - 1 = (p' : Int) := by omega
              rw [hpe]
              have htl := htk.out.1
              have hp1 : (0 : Int) ≤ (p' : Int) := by omega
              have hp2 : (p' : Int) < (nb : Int) := by omega
              have z1 := hr10i.cell (i := p') (tkV_at (by omega))
              by_cases htp : tk.getD p' false = true
              · rw [htp] at z1
                have HFN := hide (found_not hF.out (.inl htp))
                clear hr10i hr9i hF htp hi hpe htl
                go_wp2_with fail
                exact ⟨⟨p', by omega, by go_num, r, rfl, HFN, HI.out⟩, by simp [intOf]⟩
              · have htp2 : tk.getD p' false = false := by simpa using htp
                rw [htp2] at z1
                obtain ⟨row, hrow⟩ : ∃ row, W[p']? = some row := ⟨W[p']'(by have := HWL.out; omega), List.getElem?_eq_getElem _⟩
                obtain ⟨bt, ot, R1, rn, rc, rfl, x1, ex⟩ := (HTAB.out wr hi).at_ hrow
                have hrl : row.length = nb + 1 := HWR.out row (List.mem_of_getElem? hrow)
                have hrn : rn = nb + 1 := by rw [ex.form2, hrl]
                obtain ⟨q, hq⟩ : ∃ q, row[c]? = some q := ⟨row[c]'(by omega), List.getElem?_eq_getElem _⟩
                obtain ⟨b2, off2, sx, A1, n1, c1, sx', A2, n2, c2, rfl, y1, y2, y3, y4, ey⟩ := ex.at_ hq
                have HEY := hide (show RawR wr (.agg #[.bool sx, .slice A1 n1 c1, .bool sx', .slice A2 n2 c2]) q (grow k c) from ey)
                have hent : ent W p' c = q := by unfold ent; rw [getD_of hrow, getD_of hq]
                obtain ⟨z, hz⟩ : ∃ z, decide (q = 0) = z := ⟨_, rfl⟩
                have HZ := hide hz; have HENT := hide hent
                have hcr : (c : Int) < (rn : Int) := by omega
                clear hrow ex hrl hrn hq ey hent hr10i hr9i hi hz htp
                go_wp2_with fail
                refine (iszero_calls wr _ q (grow k c) HEY.out (by omega) z HZ.out).mono ?_
                rintro e w5 ⟨rfl, b5⟩
                have hi5 := HI.out.trans b5
                clear x1 y1 y2 y3 y4 z1 b5
                cases z with
                | true =>
                  have HFN := hide (found_not hF.out (.inr (by rw [HENT.out]; simpa using HZ.out)))
                  clear hF htp2 hpe htl
                  go_wp2_with fail
                  exact ⟨⟨p', by omega, by go_num, r, rfl, HFN, hi5⟩, by simp [intOf]⟩
                | false =>
                  have HFY := hide (found_yes (W := W) (tk := tk) (c := c) (p := p') (n := nb) (by omega) htp2 (by rw [HENT.out]; simpa using HZ.out))
                  clear hF htp2 hpe htl
                  go_wp2_with fail
                  exact ⟨⟨p', by omega, by go_num, _, rfl, HFY, hi5⟩, by simp [intOf]⟩
        · obtain rfl : nb = c := by omega
          have HDONE := hide (goodU_done hgood.out)
          have HLEN : Hid ((usedCol nb u W).length = nb) := hide (by simp [usedCol])
          have hul := htk.out.2.1
          have HSU : Hid (∀ q ∈ usedCol nb u W, Sized q (grow k nb + 1)) := hide fun q hq => by
            obtain ⟨m, hm, rfl⟩ := List.mem_map.1 hq
            have hm2 := List.mem_range.1 hm
            have hlt : u.getD m 0 < nb := hgood.out.unit.lt m hm2
            have h1 : W[u.getD m 0]? = some (W[u.getD m 0]'(by have := HWL.out; omega)) := List.getElem?_eq_getElem _
            have h2 := HWR.out _ (List.mem_of_getElem? h1)
            have h3 : ∀ (row : List Rat), row.length = nb + 1 → (∀ q ∈ row, Sized q (grow k nb + 1)) → Sized (row.getD nb 0) (grow k nb + 1) := fun row hl hs => by
              rw [List.getD_eq_getElem?_getD, List.getElem?_eq_getElem (by omega)]; exact hs _ (List.getElem_mem _)
            unfold ent
            rw [getD_of h1]
            exact h3 _ h2 (hsz.out _ (List.mem_of_getElem? h1))
          have hsw2 : w.heap.size ≤ wo.heap.size := hL.out.size_le
          go_wp2_with fail
          go_loopw [14, 15] (fun xv cv wi => ∃ m : Nat, m ≤ nb ∧ cv = .int .i64 (m : Int) ∧ OutRats EOwn wi (fun b => w.heap.size ≤ b ∧ b < wo.heap.size) wo.heap.size xv ((usedCol nb u W).take m) ∧ Later wo wi) (fun _ cv _ => (nb - intOf cv).toNat)
          case atStart => exact ⟨0, by omega, rfl, OutRats.nil _ _ _ _, Later.refl _⟩
          case round =>
            obtain ⟨m, hm, rfl, hx, hi⟩ := hrel
            by_cases hmn : m < nb
            · obtain ⟨r, hr⟩ : ∃ r, u.getD m 0 = r := ⟨_, rfl⟩
              have hrn : r < nb := by rw [← hr]; exact hgood.out.unit.lt m hmn
              have z1 := (hr9.out.later hi).cell (i := m) (usedV_at (by omega))
              rw [hr] at z1
              have hTE := (ht2.out (by omega)).tabE
              obtain ⟨row, hrow⟩ : ∃ row, W[r]? = some row := ⟨W[r]'(by have := HWL.out; omega), List.getElem?_eq_getElem _⟩
              obtain ⟨bt, ot, R1, rn, rc, rfl, x1, ex⟩ := hTE.at_ hrow
              have hrl : row.length = nb + 1 := HWR.out row (List.mem_of_getElem? hrow)
              have hrn2 : rn = nb + 1 := by rw [ex.form2, hrl]
              obtain ⟨q, hq⟩ : ∃ q, row[nb]? = some q := ⟨row[nb]'(by omega), List.getElem?_eq_getElem _⟩
              obtain ⟨b2, off2, sx, A1, n1, c1, sx', A2, n2, c2, rfl, y1, y2, y3, y4, ey⟩ := ex.at_ hq
              have HTK2 : Hid ((usedCol nb u W).take (m+1) = (usedCol nb u W).take m ++ [q]) := hide (by
                rw [List.take_add_one]
                congr 1
                unfold usedCol
                rw [List.getElem?_map, List.getElem?_range hmn]
                simp only [Option.map_some, Option.toList_some]
                unfold ent
                rw [hr, getD_of hrow, getD_of hq])
              have x1 := Later.cell hi x1; have y1 := Later.cell hi y1; have y2 := Later.cell hi y2; have y3 := Later.cell hi y3; have y4 := Later.cell hi y4
              have hblt := hx.lt
              have HOUT2 : Hid (∀ o, OutRats EOwn (wr.alloc o) (fun b => w.heap.size ≤ b ∧ b < wo.heap.size) wo.heap.size u14 ((usedCol nb u W).take m)) := hide fun o => hx.later ((Later.refl _).alloc _)
              have HEL : Hid (∀ o, On (wr.alloc o) (fun b => (w.heap.size ≤ b ∧ b < wo.heap.size) ∧ some b ≠ u14.ownBlock) (fun Y => EOwn Y (.agg #[.bool sx, .slice A1 n1 c1, .bool sx', .slice A2 n2 c2]) q)) := hide fun o =>
                ((show On wo _ (fun Y => EOwn Y _ q) from ey).mono (P' := fun b => (w.heap.size ≤ b ∧ b < wo.heap.size) ∧ some b ≠ u14.ownBlock) (fun b hb hlt => ⟨⟨hb.1, hlt⟩, fun e => by have := (hblt b e.symm).1; omega⟩)).later (hi.alloc _)
              have HROWX : Hid (Row (wr.alloc (Obj.cells #[Value.bool sx, Value.slice A1 n1 c1, Value.bool sx', Value.slice A2 n2 c2] 32)) wr.heap.size 32 [.bool sx, .slice A1 n1 c1, .bool sx', .slice A2 n2 c2]) := hide (Row.new wr _ _)
              have hln : ((usedCol nb u W).take m).length ≤ 3000000000 := by rw [List.length_take]; omega
              have hwi := hi.size_le
              have HBASE : Hid (∀ o, wo.heap.size ≤ (wr.alloc o).heap.size) := hide fun o => by rw [World.size_alloc]; omega
              have hm0 : (0 : Int) ≤ (m : Int) := by omega
              have hm1 : (m : Int) < (nb : Int) := by omega
              have hr0 : (0 : Int) ≤ (r : Int) := by omega
              have hr1 : (r : Int) < (nb : Int) := by omega
              have hn0 : (0 : Int) ≤ (nb : Int) := by omega
              have hn1 : (nb : Int) < (rn : Int) := by omega
              have HI := hide hi
              clear hx hi hr hTE hrow ex hrl hrn2 hq ey
              go_wp2_with (at_builtin; refine wpList_append_rat rfl _ _ rfl rfl (HOUT2.out _) rfl HROWX.out (HEL.out _) hln (HBASE.out _) ?_; intro v20 w20 hout20 hg20)
              have HO20 : Hid (OutRats EOwn w20 (fun b => w.heap.size ≤ b ∧ b < wo.heap.size) wo.heap.size v20 ((usedCol nb u W).take (m+1))) := hide (by rw [HTK2.out]; exact hout20)
              have hL20 : Later wo w20 := (HI.out.alloc _).grown hg20 fun k hk => (hblt k hk).1
              clear hout20 hg20
              go_wp2_with fail
              exact ⟨⟨m+1, by omega, by go_num, HO20.out, hL20⟩, by simp [intOf]; omega⟩
            · obtain rfl : nb = m := by omega
              rw [List.take_of_length_le (by rw [HLEN.out]; exact Nat.le_refl _)] at hx
              have HX := hide hx; have HI := hide hi
              clear hx hi
              go_wp2_with fail
              go_ret2
              exact ⟨_, true, rfl, hL.out.trans HI.out, .inr ⟨rfl, usedCol nb u W, HLEN.out, (HX.out.mono (fun b hb _ => hb.1)).weaken hsw2, HSU.out, HDONE.out.1, HDONE.out.2⟩⟩
end Go.Proofs.YtkendajmnmchoaaGreat
