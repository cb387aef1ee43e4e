/- Proofs of standard forms: the reference's signs, and its Right. -/
import Derived.Test.YtfokplidiboabaaGreatS15
import Derived.Test.YtfokplidiboabaaGreatS8
set_option linter.unusedVariables false
set_option linter.unusedSimpArgs false
set_option maxRecDepth 100000
namespace Go.Proofs.YtfokplidiboabaaGreat
open Go.RowKit Go.Shelf
attribute [local go_sem ↓] Go.wp_at_zero Go.wp_at_succ
theorem rmay_flag (w : World) (v : Value) (q : Rat) (h : EFlag w v q) : Calls Tryz.prog 81 #[v] w (RetV w (.bool (decide (q ≠ 0)))) := by
 obtain ⟨sx, A1, n1, c1, sx', A2, n2, c2, y, rfl, hy, hq⟩ := h
 exact qmay_calls w sx _ A2 n2 c2 sx' y 1000 hy ⟨_, _, _, rfl⟩ (by omega) _ (by rw [hq]; by_cases h : 0 < y <;> simp [h])
set_option maxHeartbeats 2000000 in
theorem rall_calls0 (w : World) (v : Value) (l : List Rat) (h : Rats EFlag w v l) (hl : l.length <= 1000000000) (u : Bool) (hu : (!l.any (fun x => decide (x = 0))) = u) : Calls Tryz.prog 80 #[v] w (RetV w (.bool u)) := by
 have H := hide h; have HU := hide hu
 obtain ⟨A0, nt, ct, rfl, hnt, -⟩ := h.form
 have HNT := hide hnt
 have hn9 : nt <= 1000000000 := by omega
 clear h hnt hl hu
 go_enter Tryz.func80, Tryz.ntmps80
 go_wp2_with fail
 go_loopw [3] (fun i wr => ∃ j : Nat, j <= nt /\ i = .int .i64 (j : Int) /\ Hid (∀ i r, i < j -> l[i]? = some r -> (fun x => decide (x = 0)) r = false) /\ Later w wr) (fun i _ => (nt - intOf i).toNat)
 case atStart => exact ⟨0, by omega, rfl, hide fun i r hi => by omega, Later.refl w⟩
 case round =>
  obtain ⟨j, hj, rfl, hpre, hL⟩ := hrel
  by_cases hjn : j < nt
  ·obtain ⟨x, hx⟩ : ∃ x, l[j]? = some x := ⟨l[j]'(by have := HNT.out; omega), List.getElem?_eq_getElem _⟩
   obtain ⟨b1, off1, sx, A1, n1, c1, sx', A2, n2, c2, rfl, x1, x2, x3, x4, hr⟩ := (H.out.later EFlag.later hL).at_ hx
   have HR := hide hr; have HX := hide hx
   have hj0 : (0 : Int) <= (j : Int) := by omega
   have hj1 : (j : Int) < nt := by omega
   clear hr hx
   go_wp2_with fail
   refine (rmay_flag wr _ x HR.out).mono ?_
   rintro e w8 ⟨rfl, b8⟩
   have hL8 := hL.trans b8
   by_cases hp : (fun x => decide (x = 0)) x = true
   ·have HF : Hid (u = false) := hide (by
     rw [<- HU.out, show l.any (fun x => decide (x = 0)) = true from List.any_eq_true.2 ⟨x, List.mem_of_getElem? HX.out, hp⟩]; rfl)
    have ht : decide (x ≠ 0) = false := by simpa using hp
    rw [ht]
    go_wp2_with fail
    go_ret
    exact ⟨by rw [HF.out]; rfl, hL8⟩
   ·have HN : Hid (∀ i r, i < j + 1 -> l[i]? = some r -> (fun x => decide (x = 0)) r = false) := hide fun i r hi hr => by
     by_cases hij : i < j
     ·exact hpre.out i r hij hr
     ·obtain rfl : i = j := by omega
      rw [HX.out] at hr; injection hr with hr; rw [<- hr]; simpa using hp
    have ht : decide (x ≠ 0) = true := by simpa using hp
    rw [ht]
    go_wp2_with fail
    exact ⟨⟨j+1, by omega, by go_num, HN, hL8⟩, by simp [intOf]; omega⟩
  ·obtain rfl : j = nt := by omega
   have HF : Hid (u = true) := hide (by
    rw [<- HU.out]
    have : l.any (fun x => decide (x = 0)) = false := by
     rw [List.any_eq_false]
     intro x hx
     obtain ⟨i, hi⟩ := List.getElem?_of_mem hx
     have h9 := hpre.out i x (by rw [HNT.out]; exact (List.getElem?_eq_some_iff.1 hi).1) hi
     simpa using h9
    rw [this]; rfl)
   go_wp2_with fail
   go_ret
   exact ⟨by rw [HF.out]; rfl, hL⟩
theorem rall_calls (w : World) (v : Value) (l : List Rat) (h : Rats EFlag w v l) (hl : l.length <= 1000000000) (u : Bool) (hu : allF l = u) : Calls Tryz.prog 80 #[v] w (RetV w (.bool u)) :=
 rall_calls0 w v l h hl u (by rw [<- hu, allF_any])
set_option maxHeartbeats 1000000 in
theorem rone_calls (w : World) (n : Int) (h1 : -9223372036854775808 <= n) (h2 : n < 9223372036854775808) (q : Rat) (hq : Rat.divInt n 1 = q) :
 Calls Tryz.prog 72 #[.int .i64 n] w (Ret w fun w' v => OwnR w' w.heap.size v q) := by
 obtain ⟨W0, hW0⟩ : ∃ W0, W0 = w.alloc (Obj.cells #[Value.bool false, Value.slice none 0 0, Value.bool false, Value.slice none 0 0] 36) := ⟨_, rfl⟩
 obtain ⟨hb0, r1, hsz0⟩ := boxes1 w [.bool false, .slice none 0 0, .bool false, .slice none 0 0] 36 hW0
 have R1 := hide r1; have B0' := hide hb0; have HW0 := hide hW0
 clear r1 hb0 hW0
 go_enter Tryz.func72, Tryz.ntmps72
 go_wp2_with fail
 rw [<- HW0.out]
 refine (qof_calls _ n 1 h1 h2 (by omega) (by omega) (by omega) q hq).mono ?_
 rintro e w1 ⟨v1, ok1, rfl, ⟨o1, rfl⟩, b1⟩
 obtain ⟨s1, P1, q1, e1, P1', q1', e1', rfl, o1⟩ := o1.open_; have O1 := hide o1; clear o1
 have hs1 := b1.size
 have hb2 := b1.alloc (Obj.cells #[Value.bool s1, Value.slice P1 q1 e1, Value.bool false, Value.slice P1' q1' e1'] 36)
 have HR := hide (R1.out.later hb2)
 have hL := hide (B0'.out.trans hb2)
 obtain ⟨d1, d2, d3, d4, d5, d6, d7, d8⟩ := row_cells4 HR.out
 go_wp2_with fail
 refine bodyPost_ret (results_rat rfl rfl (HR.out.four _ _ _ _)) rfl ?_
 have oo := Only.four w.heap.size (w1.alloc (Obj.cells #[Value.bool s1, Value.slice P1 q1 e1, Value.bool false, Value.slice P1' q1' e1'] 36)) (.bool s1) (.slice P1 q1 e1) (.bool false) (.slice P1' q1' e1')
 exact ⟨_, rfl, ((O1.out.later ((Later.refl _).alloc _)).only oo (by omega)).weaken (by omega), hL.out.only oo (Nat.le_refl _)⟩
theorem rightB_bad {A : List (List Rat)} {B C : List Rat} {fA : List (List Rat)} {v : Bool} {i : Nat} {r f : List Rat} {x : Rat} (h1 : A[i]? = some r) (h2 : fA[i]? = some f) (h3 : B[i]? = some x) (h : r.length ≠ C.length ∨ allF f = false ∨ x < 0) : rightB A B C (allFF fA && v) = false := by
 cases hc : rightB A B C (allFF fA && v) with
 | false => rfl
 | true =>
   obtain ⟨-, -, -, k1, k2, k3⟩ := rightB_facts hc
   simp only [Bool.and_eq_true] at k2
   rcases h with h | h | h
   ·exact absurd (k1 r (List.mem_of_getElem? h1)) h
   ·have := List.all_eq_true.1 k2.1 f (List.mem_of_getElem? h2)
    rw [h] at this; cases this
   ·exact absurd h (k3 x (List.mem_of_getElem? h3))
theorem rightB_good {A : List (List Rat)} {B C : List Rat} {fA : List (List Rat)} {v : Bool} (h1 : A.length <= 64) (h2 : C.length <= 80) (h3 : B.length = A.length) (h4 : v = true) (hf : fA.length = A.length)
 (h : ∀ (i : Nat) r f x, A[i]? = some r -> fA[i]? = some f -> B[i]? = some x -> r.length = C.length /\ allF f = true /\ ¬ x < 0) : rightB A B C (allFF fA && v) = true := by
 unfold rightB rectB allFF
 simp only [Bool.and_eq_true, decide_eq_true_eq, List.all_eq_true, Bool.not_eq_true', List.any_eq_false]
 refine ⟨h1, h2, h3, fun r hr => ?_, ⟨fun f hf' => ?_, h4⟩, fun x hx => ?_⟩
 ·obtain ⟨i, hi⟩ := List.getElem?_of_mem hr
  have hl := (List.getElem?_eq_some_iff.1 hi).1
  exact (h i r _ _ hi (List.getElem?_eq_getElem (by omega)) (List.getElem?_eq_getElem (by omega))).1
 ·obtain ⟨i, hi⟩ := List.getElem?_of_mem hf'
  have hl := (List.getElem?_eq_some_iff.1 hi).1
  exact (h i _ f _ (List.getElem?_eq_getElem (by omega)) hi (List.getElem?_eq_getElem (by omega))).2.1
 ·obtain ⟨i, hi⟩ := List.getElem?_of_mem hx
  have hl := (List.getElem?_eq_some_iff.1 hi).1
  have := (h i _ _ x (List.getElem?_eq_getElem (by omega)) (List.getElem?_eq_getElem (by omega)) hi).2.2
  simpa using this
end Go.Proofs.YtfokplidiboabaaGreat
namespace Go.Proofs.YtfokplidiboabaaGreat
open Go.RowKit Go.Shelf
attribute [local go_sem ↓] Go.wp_at_zero Go.wp_at_succ
set_option maxHeartbeats 16000000 in
theorem rright_calls (w : World) (vA vB vC : Value) (A fA : List (List Rat)) (B C fB fC : List Rat) (k : Nat) (ha : Tab (ERaw k) w vA A) (hb : Rats (ERaw k) w vB B) (hc : Rats (ERaw k) w vC C)
 (ga : Tab EFlag w vA fA) (gb : Rats EFlag w vB fB) (gc : Rats EFlag w vC fC) (hk : k <= 1000000) (hl : ∀ r ∈ A, r.length <= 1000000000) (hl2 : ∀ r ∈ fA, r.length <= 1000000000) (hA9 : A.length <= 1000000000) (hB9 : B.length <= 1000000000) (hC9 : C.length <= 1000000000) :
 Calls Tryz.prog 24 #[.agg #[vA, vB, vC]] w (RetV w (.bool (rightB A B C (allFF fA && (allF fB && allF fC))))) := by
 have HA := hide ha; have HB := hide hb; have HC := hide hc; have GA := hide ga; have GB := hide gb; have GC := hide gc; have HL := hide hl; have HL2 := hide hl2
 obtain ⟨A1, n1, c1, rfl, hn1, -, -, -⟩ := ha.form
 obtain ⟨A2, n2, c2, rfl, hn2, -⟩ := hb.form
 obtain ⟨A3, n3, c3, rfl, hn3, -⟩ := hc.form
 have hf1 : n1 = fA.length := by obtain ⟨_, _, _, e, e2, -, -, -⟩ := ga.form; injection e with _ e _; rw [e, e2]
 have hf2 : n2 = fB.length := gb.len_
 have hf3 : n3 = fC.length := gc.len_
 have HN1 := hide hn1; have HN2 := hide hn2; have HN3 := hide hn3; have HF1 := hide hf1; have HF2 := hide hf2; have HF3 := hide hf3
 have k1 : n1 <= 1000000000 := by omega
 have k2 : n2 <= 1000000000 := by omega
 have k3 : n3 <= 1000000000 := by omega
 clear ha hb hc ga gb gc hl hl2 hn1 hn2 hn3 hf1 hf2 hf3 hA9 hB9 hC9
 obtain ⟨W0, hW0⟩ : ∃ W0, W0 = w.alloc (Obj.cells #[Value.slice A1 n1 c1, Value.slice A2 n2 c2, Value.slice A3 n3 c3] 31) := ⟨_, rfl⟩
 obtain ⟨hb0, r1, hsz0⟩ := boxes1 w [.slice A1 n1 c1, .slice A2 n2 c2, .slice A3 n3 c3] 31 hW0
 have B0 := hide hb0; have HW0 := hide hW0; have R0 := hide r1
 have d1 := r1.cell (i := 0) rfl; have d2 := r1.cell (i := 1) rfl; have d3 := r1.cell (i := 2) rfl
 clear r1 hb0 hW0 hsz0
 go_enter Tryz.func24, Tryz.ntmps24
 go_upto_region 1 with fail
 rw [<- HW0.out]
 by_cases h1 : 64 < n1
 ·have t1 : decide ((64 : Int) < (n1 : Int)) = true := by simp; omega
  have HF : Hid (rightB A B C (allFF fA && (allF fB && allF fC)) = false) := hide (by unfold rightB; rw [<- HN1.out]; simp [h1]; intro h; omega)
  go_wp2_with fail
  go_ret
  exact ⟨by rw [HF.out]; rfl, B0.out⟩
 have t1 : decide ((64 : Int) < (n1 : Int)) = false := by simp; omega
 by_cases h2 : 80 < n3
 ·have t2 : decide ((80 : Int) < (n3 : Int)) = true := by simp; omega
  have HF : Hid (rightB A B C (allFF fA && (allF fB && allF fC)) = false) := hide (by unfold rightB; rw [<- HN3.out, show decide (n3 <= 80) = false by simp; omega]; simp)
  go_wp2_with fail
  go_ret
  exact ⟨by rw [HF.out]; rfl, B0.out⟩
 have t2 : decide ((80 : Int) < (n3 : Int)) = false := by simp; omega
 by_cases h3 : n2 = n1
 rotate_left
 ·have t3 : ((n2 : Int) != (n1 : Int)) = true := by rw [bne_iff_ne]; omega
  have HF : Hid (rightB A B C (allFF fA && (allF fB && allF fC)) = false) := hide (by unfold rightB; rw [<- HN1.out, <- HN2.out]; simp [h3])
  go_wp2_with fail
  go_ret
  exact ⟨by rw [HF.out]; rfl, B0.out⟩
 have t3 : ((n2 : Int) != (n1 : Int)) = false := by rw [h3]; simp
 have HS1 := hide h1; have HS2 := hide h2; have H3 := hide h3
 obtain ⟨u2, hu2⟩ : ∃ u, allF fB = u := ⟨_, rfl⟩
 have HU2 := hide hu2
 clear hu2 h1 h2 h3
 go_wp2_with fail
 ((with_reducible refine (rall_calls W0 _ fB (GB.out.later EFlag.later B0.out) (by rw [<- HF2.out]; omega) u2 HU2.out).mono ?_); rintro e w1 ⟨rfl, b1⟩)
 have HL1 := hide b1
 have hrs := R0.out.later HL1.out
 have d1 := hrs.cell (i := 0) rfl; have d2 := hrs.cell (i := 1) rfl; have d3 := hrs.cell (i := 2) rfl
 clear hrs
 clear b1
 have HKB : u2 = false -> Hid (rightB A B C (allFF fA && (allF fB && allF fC)) = false) := fun h => hide (by unfold rightB; rw [HU2.out, h]; simp)
 cases u2 with
 | false =>
   have HF := HKB rfl
   go_wp2_with fail
   go_ret
   exact ⟨by rw [HF.out]; rfl, B0.out.trans HL1.out⟩
 | true =>
 clear HKB
 obtain ⟨u3, hu3⟩ : ∃ u, allF fC = u := ⟨_, rfl⟩
 have HU3 := hide hu3
 clear hu3
 go_wp2_with fail
 ((with_reducible refine (rall_calls w1 _ fC (GC.out.later EFlag.later (B0.out.trans HL1.out)) (by rw [<- HF3.out]; omega) u3 HU3.out).mono ?_); rintro e w2 ⟨rfl, b2⟩)
 have HL2w := hide (HL1.out.trans b2)
 clear b2 d1 d2 d3
 have HKB : u3 = false -> Hid (rightB A B C (allFF fA && (allF fB && allF fC)) = false) := fun h => hide (by unfold rightB; rw [HU3.out, h]; simp)
 cases u3 with
 | false =>
   have HF := HKB rfl
   go_wp2_with fail
   go_ret
   exact ⟨by rw [HF.out]; rfl, B0.out.trans HL2w.out⟩
 | true =>
 clear HKB
 go_wp2_with fail
 go_loopw [3] (fun i wr => ∃ j : Nat, j <= n1 /\ i = .int .i64 (j : Int) /\ Hid (∀ (i : Nat) r f x, i < j -> A[i]? = some r -> fA[i]? = some f -> B[i]? = some x -> r.length = C.length /\ allF f = true /\ ¬ x < 0) /\ Later W0 wr) (fun i _ => (n1 - intOf i).toNat)
 case atStart => exact ⟨0, by omega, rfl, hide fun i r f x hi => by omega, HL2w.out⟩
 case round =>
  obtain ⟨j, hj, rfl, hpre, hL⟩ := hrel
  have HLW := hide hL
  clear hL
  have hrs := R0.out.later HLW.out
  have d1 := hrs.cell (i := 0) rfl; have d2 := hrs.cell (i := 1) rfl; have d3 := hrs.cell (i := 2) rfl
  clear hrs
  by_cases hjn : j < n1
  ·have hj1n : j < n2 := by have := H3.out; omega
   obtain ⟨row, hrow⟩ : ∃ x, A[j]? = some x := ⟨A[j]'(by have := HN1.out; omega), List.getElem?_eq_getElem _⟩
   obtain ⟨f, hfrow⟩ : ∃ x, fA[j]? = some x := ⟨fA[j]'(by have := HF1.out; omega), List.getElem?_eq_getElem _⟩
   obtain ⟨x, hxrow⟩ : ∃ x, B[j]? = some x := ⟨B[j]'(by have := HN2.out; omega), List.getElem?_eq_getElem _⟩
   obtain ⟨b1, off1, A7, n7, c7, rfl, x0, hrr⟩ := (HA.out.later ERaw.later (B0.out.trans HLW.out)).at_ hrow
   obtain ⟨b3, off3, A8, n8, c8, hA, x9, hff⟩ := (GA.out.later EFlag.later (B0.out.trans HLW.out)).at_ hfrow
   injection hA with hA; injection hA with hA1 hA2; subst hA1 hA2
   rw [x0] at x9
   injection x9 with x9; injection x9 with e7 e8 e9
   subst e7 e8 e9
   obtain ⟨b2, off2, sx, X, nx, cx, sx', X', nx', cx', rfl, y1, y2, y3, y4, ey⟩ := (HB.out.later ERaw.later (B0.out.trans HLW.out)).at_ hxrow
   have HROW := hide hrow; have HFROW := hide hfrow; have HXROW := hide hxrow
   have HX : Hid (RawR wr (.agg #[.bool sx, .slice X nx cx, .bool sx', .slice X' nx' cx']) x k) := hide ey
   have HF : Hid (Rats EFlag wr (.slice A7 n7 c7) f) := hide hff
   have HN7 : Hid (n7 = row.length) := hide hrr.len_
   have hf9 : f.length <= 1000000000 := HL2.out f (List.mem_of_getElem? hfrow)
   have hj0 : (0 : Int) <= (j : Int) := by omega
   have hj1 : (j : Int) < n1 := by omega
   have hj2 : (j : Int) < n2 := by omega
   have hrs := R0.out.later (HLW.out.trans (Later.refl wr).drew)
   have HT1 : Hid (∀ w', Later wr.drew w' -> w'.cell? ⟨w.heap.size, 0, none⟩ = some (.slice (some ⟨b1, off1, none⟩) n1 c1) /\ w'.cell? ⟨w.heap.size, 1, none⟩ = some (.slice (some ⟨b2, off2, none⟩) n2 c2) /\ w'.cell? ⟨w.heap.size, 2, none⟩ = some (.slice A3 n3 c3) /\ w'.cell? ⟨b1, off1 + j, none⟩ = some (.slice A7 n7 c7) /\ w'.cell? ⟨b2, off2 + j * 4, none⟩ = some (.bool sx) /\ w'.cell? ⟨b2, off2 + j * 4 + 1, none⟩ = some (.slice X nx cx) /\ w'.cell? ⟨b2, off2 + j * 4 + 2, none⟩ = some (.bool sx') /\ w'.cell? ⟨b2, off2 + j * 4 + 3, none⟩ = some (.slice X' nx' cx')) := hide fun w' hb => ⟨(hrs.later hb).cell rfl, (hrs.later hb).cell rfl, (hrs.later hb).cell rfl, Later.cell ((Later.refl wr).drew.trans hb) x0, Later.cell ((Later.refl wr).drew.trans hb) y1, Later.cell ((Later.refl wr).drew.trans hb) y2, Later.cell ((Later.refl wr).drew.trans hb) y3, Later.cell ((Later.refl wr).drew.trans hb) y4⟩
   obtain ⟨cz, hcz⟩ : ∃ cz, cmpQ x 0 = cz := ⟨_, rfl⟩
   obtain ⟨uf, huf⟩ : ∃ uf, allF f = uf := ⟨_, rfl⟩
   have HCZ := hide hcz; have HUF := hide huf
   clear hrow hfrow hxrow ey hff hrr x0 y1 y2 y3 y4 hrs hcz huf
   go_upto_region 6 with fail
   clear d1 d2 d3
   by_cases hlen : n7 = n3
   rotate_left
   ·have t7 : ((n7 : Int) != (n3 : Int)) = true := by rw [bne_iff_ne]; omega
    have HBAD : Hid (rightB A B C (allFF fA && (allF fB && allF fC)) = false) := hide (rightB_bad HROW.out HFROW.out HXROW.out (.inl (by rw [<- HN7.out, <- HN3.out]; exact hlen)))
    have hmx : Tryz.prog.follows .mixedOrders = true := by kernel_rfl
    refine wp_region_N (fun w' => w'.cell? ⟨w.heap.size, 0, none⟩ = some (.slice (some ⟨b1, off1, none⟩) n1 c1) /\ w'.cell? ⟨w.heap.size, 1, none⟩ = some (.slice (some ⟨b2, off2, none⟩) n2 c2) /\ w'.cell? ⟨w.heap.size, 2, none⟩ = some (.slice A3 n3 c3) /\ w'.cell? ⟨b1, off1 + j, none⟩ = some (.slice A7 n7 c7) /\ w'.cell? ⟨b2, off2 + j * 4, none⟩ = some (.bool sx) /\ w'.cell? ⟨b2, off2 + j * 4 + 1, none⟩ = some (.slice X nx cx) /\ w'.cell? ⟨b2, off2 + j * 4 + 2, none⟩ = some (.bool sx') /\ w'.cell? ⟨b2, off2 + j * 4 + 3, none⟩ = some (.slice X' nx' cx')) [] hmx (HT1.out _ (Later.refl _)) (fun hHeld => ?_)
    refine tkB 42 0 ?_
    refine tkB 43 1 ?_
    refine tkB 44 2 ?_
    refine tkB 45 3 ?_
    refine tkB 46 4 ?_
    refine tkB 47 5 ?_
    refine tkB 48 6 ?_
    refine tkB 49 7 ?_
    refine tkB 50 8 ?_
    refine tkB 51 9 ?_
    refine tkB 52 10 ?_
    refine tkU 53 11 ?_
    try simp only [Act.put, s1_, s2_, s3_]
    refine tkU 54 12 ?_
    try simp only [Act.put, s1_, s2_, s3_]
    refine tkU 55 13 ?_
    try simp only [Act.put, s1_, s2_, s3_]
    refine tkU 56 14 ?_
    try simp only [Act.put, s1_, s2_, s3_]
    refine tkU 57 15 ?_
    try simp only [Act.put, s1_, s2_, s3_]
    refine tkU 58 16 ?_
    try simp only [Act.put, s1_, s2_, s3_]
    refine tkU 59 17 ?_
    try simp only [Act.put, s1_, s2_, s3_]
    refine tkB 60 18 ?_
    refine tkB 61 19 ?_
    refine tkU 62 20 ?_
    try simp only [Act.put, s1_, s2_, s3_]
    refine tkU 63 21 ?_
    try simp only [Act.put, s1_, s2_, s3_]
    refine tkU 64 22 ?_
    try simp only [Act.put, s1_, s2_, s3_]
    refine tkU 65 23 ?_
    try simp only [Act.put, s1_, s2_, s3_]
    refine tkU 66 24 ?_
    try simp only [Act.put, s1_, s2_, s3_]
    refine tkU 67 25 ?_
    try simp only [Act.put, s1_, s2_, s3_]
    refine tkU 68 26 ?_
    try simp only [Act.put, s1_, s2_, s3_]
    refine tkU 69 27 ?_
    try simp only [Act.put, s1_, s2_, s3_]
    refine tkB 70 28 ?_
    refine wpAnyN_done (by kernel_rfl) ?_ _
    have HLF := hide ((HLW.out.trans ((Later.refl wr).drew)).trans (Later.refl wr.drew))
    clear hHeld
    go_wp2_with fail
    go_ret
    exact ⟨by rw [HBAD.out]; rfl, B0.out.trans HLF.out⟩
   have t7 : ((n7 : Int) != (n3 : Int)) = false := by rw [hlen]; simp
   have HLEN : Hid (row.length = C.length) := hide (by rw [<- HN7.out, <- HN3.out]; exact hlen)
   clear hlen
   cases uf with
   | false =>
     have HBAD : Hid (rightB A B C (allFF fA && (allF fB && allF fC)) = false) := hide (rightB_bad HROW.out HFROW.out HXROW.out (.inr (.inl HUF.out)))
     have hmx : Tryz.prog.follows .mixedOrders = true := by kernel_rfl
     refine wp_region_N (fun w' => w'.cell? ⟨w.heap.size, 0, none⟩ = some (.slice (some ⟨b1, off1, none⟩) n1 c1) /\ w'.cell? ⟨w.heap.size, 1, none⟩ = some (.slice (some ⟨b2, off2, none⟩) n2 c2) /\ w'.cell? ⟨w.heap.size, 2, none⟩ = some (.slice A3 n3 c3) /\ w'.cell? ⟨b1, off1 + j, none⟩ = some (.slice A7 n7 c7) /\ w'.cell? ⟨b2, off2 + j * 4, none⟩ = some (.bool sx) /\ w'.cell? ⟨b2, off2 + j * 4 + 1, none⟩ = some (.slice X nx cx) /\ w'.cell? ⟨b2, off2 + j * 4 + 2, none⟩ = some (.bool sx') /\ w'.cell? ⟨b2, off2 + j * 4 + 3, none⟩ = some (.slice X' nx' cx')) [] hmx (HT1.out _ (Later.refl _)) (fun hHeld => ?_)
     refine tkB 42 0 ?_
     refine tkB 43 1 ?_
     refine tkB 44 2 ?_
     refine tkB 45 3 ?_
     refine tkB 46 4 ?_
     refine tkB 47 5 ?_
     refine tkB 48 6 ?_
     refine tkB 49 7 ?_
     refine tkB 50 8 ?_
     refine tkB 51 9 ?_
     refine tkB 52 10 ?_
     refine tkB 53 11 ?_
     refine tkB 54 12 ?_
     refine tkB 55 13 ?_
     refine tkB 56 14 ?_
     refine tkB 57 15 ?_
     refine wpAnyN_ready (rs := [16]) (by kernel_rfl) (by simp) ?_
     refine AllReadyN.held rfl (by rfl) (fun K hK => ?_) AllReadyN.nil
     go_simp
     refine (rall_calls wr.drew _ f (HF.out.later EFlag.later (Later.refl wr).drew) (by omega) _ HUF.out).mono ?_
     rintro e w116 ⟨rfl, l16⟩
     refine hK.out _ _ ?_ (fun hHeld => ?_)
     ·exact HT1.out _ l16
     clear hK K
     try simp only [Act.put, s1_, s2_, s3_]
     refine tkB 59 17 ?_
     refine tkB 60 18 ?_
     refine tkB 61 19 ?_
     refine tkU 62 20 ?_
     try simp only [Act.put, s1_, s2_, s3_]
     refine tkU 63 21 ?_
     try simp only [Act.put, s1_, s2_, s3_]
     refine tkU 64 22 ?_
     try simp only [Act.put, s1_, s2_, s3_]
     refine tkU 65 23 ?_
     try simp only [Act.put, s1_, s2_, s3_]
     refine tkU 66 24 ?_
     try simp only [Act.put, s1_, s2_, s3_]
     refine tkU 67 25 ?_
     try simp only [Act.put, s1_, s2_, s3_]
     refine tkU 68 26 ?_
     try simp only [Act.put, s1_, s2_, s3_]
     refine tkU 69 27 ?_
     try simp only [Act.put, s1_, s2_, s3_]
     refine tkB 70 28 ?_
     refine wpAnyN_done (by kernel_rfl) ?_ _
     have HLF := hide ((HLW.out.trans ((Later.refl wr).drew)).trans l16)
     clear hHeld
     go_wp2_with fail
     go_ret
     exact ⟨by rw [HBAD.out]; rfl, B0.out.trans HLF.out⟩
   | true =>
     obtain ⟨un, t9⟩ : ∃ un, decide (cz < 0) = un := ⟨_, rfl⟩
     have hmx : Tryz.prog.follows .mixedOrders = true := by kernel_rfl
     refine wp_region_N (fun w' => w'.cell? ⟨w.heap.size, 0, none⟩ = some (.slice (some ⟨b1, off1, none⟩) n1 c1) /\ w'.cell? ⟨w.heap.size, 1, none⟩ = some (.slice (some ⟨b2, off2, none⟩) n2 c2) /\ w'.cell? ⟨w.heap.size, 2, none⟩ = some (.slice A3 n3 c3) /\ w'.cell? ⟨b1, off1 + j, none⟩ = some (.slice A7 n7 c7) /\ w'.cell? ⟨b2, off2 + j * 4, none⟩ = some (.bool sx) /\ w'.cell? ⟨b2, off2 + j * 4 + 1, none⟩ = some (.slice X nx cx) /\ w'.cell? ⟨b2, off2 + j * 4 + 2, none⟩ = some (.bool sx') /\ w'.cell? ⟨b2, off2 + j * 4 + 3, none⟩ = some (.slice X' nx' cx')) [] hmx (HT1.out _ (Later.refl _)) (fun hHeld => ?_)
     refine tkB 42 0 ?_
     refine tkB 43 1 ?_
     refine tkB 44 2 ?_
     refine tkB 45 3 ?_
     refine tkB 46 4 ?_
     refine tkB 47 5 ?_
     refine tkB 48 6 ?_
     refine tkB 49 7 ?_
     refine tkB 50 8 ?_
     refine tkB 51 9 ?_
     refine tkB 52 10 ?_
     refine tkB 53 11 ?_
     refine tkB 54 12 ?_
     refine tkB 55 13 ?_
     refine tkB 56 14 ?_
     refine tkB 57 15 ?_
     refine wpAnyN_ready (rs := [16]) (by kernel_rfl) (by simp) ?_
     refine AllReadyN.held rfl (by rfl) (fun K hK => ?_) AllReadyN.nil
     go_simp
     refine (rall_calls wr.drew _ f (HF.out.later EFlag.later (Later.refl wr).drew) (by omega) _ HUF.out).mono ?_
     rintro e w116 ⟨rfl, l16⟩
     refine hK.out _ _ ?_ (fun hHeld => ?_)
     ·exact HT1.out _ l16
     clear hK K
     try simp only [Act.put, s1_, s2_, s3_]
     refine tkB 59 17 ?_
     refine tkB 60 18 ?_
     refine tkB 61 19 ?_
     refine tkB 62 20 ?_
     refine tkB 63 21 ?_
     refine tkB 64 22 ?_
     refine tkB 65 23 ?_
     refine tkB 66 24 ?_
     refine wpAnyN_ready (rs := [25]) (by kernel_rfl) (by simp) ?_
     refine AllReadyN.held rfl (by rfl) (fun K hK => ?_) AllReadyN.nil
     go_simp
     ((with_reducible refine (rone_calls w116 0 (by omega) (by omega) 0 div_0).mono ?_); rintro e w125 ⟨v125, rfl, o125, b125⟩)
     obtain ⟨s125, P125, q125, e125, P125', q125', e125', rfl, o125⟩ := o125.open_; have O125 := hide o125; clear o125
     have l25 : Later wr.drew w125 := l16.trans b125
     refine hK.out _ _ ?_ (fun hHeld => ?_)
     ·exact HT1.out _ l25
     clear hK K
     try simp only [Act.put, s1_, s2_, s3_]
     refine wpAnyN_ready (rs := [26]) (by kernel_rfl) (by simp) ?_
     refine AllReadyN.held rfl (by rfl) (fun K hK => ?_) AllReadyN.nil
     go_simp
     ((with_reducible refine (qcmp_calls w125 _ _ x 0 k 1 (RawR.later HX.out ((Later.refl wr).drew.trans l25)) (OwnR.raw O125.out sized_0) (by omega)).mono ?_); rintro e w126 ⟨rfl, b126⟩; rw [HCZ.out])
     have l26 : Later wr.drew w126 := l25.trans b126
     refine hK.out _ _ ?_ (fun hHeld => ?_)
     ·exact HT1.out _ l26
     clear hK K
     try simp only [Act.put, s1_, s2_, s3_]
     refine tkB 69 27 ?_
     refine tkB 70 28 ?_
     refine wpAnyN_done (by kernel_rfl) ?_ _
     have HLF := hide ((HLW.out.trans ((Later.refl wr).drew)).trans l26)
     clear hHeld
     have hcl := cmp0_lt HCZ.out
     rw [t9] at hcl
     cases un with
     | true =>
       have hneg : x < 0 := by simpa using hcl.symm
       have HBAD : Hid (rightB A B C (allFF fA && (allF fB && allF fC)) = false) := hide (rightB_bad HROW.out HFROW.out HXROW.out (.inr (.inr hneg)))
       go_wp2_with fail
       go_ret
       exact ⟨by rw [HBAD.out]; rfl, B0.out.trans HLF.out⟩
     | false =>
       have hneg : ¬ x < 0 := by simpa using hcl.symm
       have HN : Hid (∀ (i : Nat) r f x, i < j + 1 -> A[i]? = some r -> fA[i]? = some f -> B[i]? = some x -> r.length = C.length /\ allF f = true /\ ¬ x < 0) := hide fun i r' f' x' hi h1 h2 h3 => by
        by_cases hij : i < j
        ·exact hpre.out i r' f' x' hij h1 h2 h3
        ·obtain rfl : i = j := by omega
         rw [HROW.out] at h1; rw [HFROW.out] at h2; rw [HXROW.out] at h3
         injection h1 with h1; injection h2 with h2; injection h3 with h3
         subst h1 h2 h3
         exact ⟨HLEN.out, HUF.out, hneg⟩
       clear hneg hcl
       go_wp2_with fail
       exact ⟨⟨j+1, by omega, by go_num, HN, HLF.out⟩, by simp [intOf]; omega⟩
  ·obtain rfl : n1 = j := by omega
   have HG : Hid (rightB A B C (allFF fA && (allF fB && allF fC)) = true) := hide (rightB_good (by rw [<- HN1.out]; have := HS1.out; omega) (by rw [<- HN3.out]; have := HS2.out; omega) (by rw [<- HN2.out, <- HN1.out]; exact H3.out) (by rw [HU2.out, HU3.out]; rfl) (by rw [<- HF1.out]; exact HN1.out)
    (fun i r f x h1 h2 h3 => hpre.out i r f x (by rw [HN1.out]; exact (List.getElem?_eq_some_iff.1 h1).1) h1 h2 h3))
   go_wp2_with fail
   go_ret
   exact ⟨by rw [HG.out]; rfl, B0.out.trans HLW.out⟩
theorem rright_std {w : World} {vA vB vC : Value} {k : Nat} {A : List (List Rat)} {B C : List Rat} {ok : Bool} (h : StdIn w vA vB vC k A B C ok) : Calls Tryz.prog 24 #[.agg #[vA, vB, vC]] w (RetV w (.bool (rightB A B C ok))) := by
 obtain ⟨fA, fB, fC, h1, h2, h3, h4, h5, h6, rfl, h7, h8, h9, h10, h11, h12⟩ := h
 exact rright_calls w vA vB vC A fA B C fB fC k h1 h2 h3 h4 h5 h6 (by omega) (fun r hr => by have := h8 r hr; omega) (fun r hr => by have := h9 r hr; omega) (by omega) (by omega) (by omega)
end Go.Proofs.YtfokplidiboabaaGreat
namespace Go.Proofs.YtfokplidiboabaaGreat
open Go.RowKit Go.Shelf
attribute [local go_sem ↓] Go.wp_at_zero Go.wp_at_succ
end Go.Proofs.YtfokplidiboabaaGreat
namespace Go.Proofs.YtfokplidiboabaaGreat
open Go.RowKit Go.Shelf
attribute [local go_sem ↓] Go.wp_at_zero Go.wp_at_succ
end Go.Proofs.YtfokplidiboabaaGreat
namespace Go.Proofs.YtfokplidiboabaaGreat
open Go.RowKit Go.Shelf
attribute [local go_sem ↓] Go.wp_at_zero Go.wp_at_succ
end Go.Proofs.YtfokplidiboabaaGreat
