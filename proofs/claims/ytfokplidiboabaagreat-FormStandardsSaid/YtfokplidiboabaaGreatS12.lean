/- Rows of fractions: Dot. -/
import Derived.Test.YtfokplidiboabaaGreatS11
import Derived.Test.YtfokplidiboabaaGreatS10
set_option linter.unusedVariables false
set_option linter.unusedSimpArgs false
set_option maxRecDepth 100000
namespace Go.Proofs.YtfokplidiboabaaGreat
open Go.RowKit Go.Shelf
attribute [local go_sem ↓] Go.wp_at_zero Go.wp_at_succ
def sumR (l : List Rat) : Rat := l.foldl (· + ·) 0
theorem sumR_snoc (l : List Rat) (x : Rat) : sumR (l ++ [x]) = sumR l + x := by simp [sumR, List.foldl_append]
theorem sized_sumR {l : List Rat} {K : Nat} (h : ∀ q ∈ l, Sized q K) : Sized (sumR l) (l.length * (K + 1) + 1) := by
 obtain ⟨r, hr⟩ : ∃ r, r = l.reverse := ⟨_, rfl⟩
 have hl : l = r.reverse := by rw [hr, List.reverse_reverse]
 subst hl
 clear hr
 induction r with
 | nil => exact (Sized.zero 0).mono (by simp)
 | cons x r ih =>
   rw [List.reverse_cons, sumR_snoc]
   refine (Sized.add (ih fun q hq => h q (by rw [List.reverse_cons]; exact List.mem_append_left _ hq)) (h x (by simp))).mono ?_
   simp only [List.length_append, List.length_reverse, List.length_singleton, Nat.add_mul, Nat.one_mul]
   omega
theorem Rats.sized {k : Nat} {w : World} {v : Value} {l : List Rat} (h : Rats (ERaw k) w v l) : ∀ q ∈ l, Sized q (k+1) := by
 intro q hq
 obtain ⟨i, hi⟩ := List.getElem?_of_mem hq
 obtain ⟨A, c, e, -, -, h3⟩ := h
 obtain ⟨b, off, s, A1, n1, c1, s', A2, n2, c2, -, -, -, -, -, hE⟩ := h3 i q hi
 exact RawR.sized hE
theorem sized_zip {a b : List Rat} {k m : Nat} (ha : ∀ q ∈ a, Sized q k) (hb : ∀ q ∈ b, Sized q m) : ∀ q ∈ List.zipWith (fun x y => x * y) a b, Sized q (k + m) := by
 induction a generalizing b with
 | nil => simp
 | cons x a ih => cases b with
   | nil => simp
   | cons y b =>
     intro q hq
     rw [List.zipWith_cons_cons] at hq
     rcases List.mem_cons.1 hq with rfl | hq
     ·exact (ha x (List.mem_cons_self ..)).mul (hb y (List.mem_cons_self ..))
     ·exact ih (fun q h => ha q (List.mem_cons_of_mem _ h)) (fun q h => hb q (List.mem_cons_of_mem _ h)) q hq
def dotL (a b : List Rat) : Rat := sumR (List.zipWith (fun x y => x * y) a b)
theorem Own32.of_agree {T : TypeId} {w : World} {P : Nat -> Prop} {B : Nat} {v : Value} {l : List Nat} (h : On w P (fun W => Own32 T W 0 v l)) (hP : ∀ b, P b -> B <= b) : Own32 T w B v l := by
 obtain ⟨h1, h2, h3⟩ := h.now
 refine ⟨h1, h2, ?_⟩
 rcases h3 with h3 | ⟨g, cap, cur, rfl, hb, hg, r⟩
 ·exact .inl h3
 ·refine .inr ⟨g, cap, cur, rfl, ?_, hg, r⟩
  obtain ⟨F, f1, f2⟩ := h
  by_cases hF : F g
  ·exact hP g (f1 g hF).1
  ·-- the block may be taken away, and the fact must stand all the same: it can't
   exfalso
   have h4 := f2 { w with heap := w.heap.set g (.cells #[] T (0, 1)) (by have := Array.getElem?_eq_some_iff.1 hg; exact this.1) } (fun b hb => by
    have hne : g ≠ b := fun e => hF (e ▸ hb)
    simp [Array.getElem?_set, hne])
   obtain ⟨-, -, h5⟩ := h4
   rcases h5 with ⟨h5, -⟩ | ⟨g', cap', cur', e, hb', hg', r'⟩
   ·cases h5
   ·injection e with e1 e2 e3
    injection e1 with e1; injection e1 with e1
    subst e1
    simp at hg'
theorem OwnR.of_on {w : World} {P : Nat -> Prop} {B : Nat} {v : Value} {q : Rat} (h : On w P (fun W => OwnR W 0 v q)) (hP : ∀ b, P b -> B <= b) : OwnR w B v q := by
 obtain ⟨A, n, c, A', n', c', e, h1, h2⟩ := h.now
 subst e
 refine ⟨A, n, c, A', n', c', rfl, Own32.of_agree (h.map fun W hW => ?_) hP, Own32.of_agree (h.map fun W hW => ?_) hP⟩
 ·have := hW.num.own; exact this
 ·have := hW.den.own; rw [Int.natAbs_natCast] at this; exact this
def DotAt (w : World) (g : Nat) (ps : List Rat) (pv : Value) (k : Nat) (wr : World) : Prop :=
 ∃ s A n c A' n' c', Row wr g 36 [.bool s, .slice A n c, .bool false, .slice A' n' c'] /\ On wr (fun b => w.heap.size < b /\ b ≠ g) (fun W => OwnR W 0 (.agg #[.bool s, .slice A n c, .bool false, .slice A' n' c']) (sumR (ps.take k))) /\
   On wr (fun b => w.heap.size < b /\ b ≠ g) (fun W => Rats EOwn W pv ps) /\ Row wr w.heap.size 36 [.bool false, .slice none 0 0, .bool false, .slice none 0 0] /\ Later w wr /\ w.heap.size < g
set_option maxHeartbeats 4000000 in
theorem dot_calls (w : World) (va vb : Value) (a b : List Rat) (k m : Nat) (ha : Rats (ERaw k) w va a) (hb : Rats (ERaw m) w vb b) (hlen : a.length = b.length) (hsz : (a.length + 1) * (k + m + 4) <= 50000000) :
 Calls Tryz.prog 71 #[va, vb] w (Ret2 w fun w' v o => OwnR w' w.heap.size v (dotL a b) /\ o = .bool true) := by
 have HA := hide ha; have HB := hide hb; have HLEN := hide hlen
 have hKM := Nat.mul_le_mul (Nat.le_add_left 1 a.length) (Nat.le_refl (k + m + 4))
 have hl9 : a.length <= 50000000 := by
  have h := Nat.mul_le_mul (Nat.le_add_right a.length 1) (show 1 <= k + m + 4 by omega)
  omega
 have hkm : k + m + 4 <= 50000000 := by omega
 obtain ⟨A0, na, ca, rfl, hna, -⟩ := ha.form
 obtain ⟨B0, nb, cb, rfl, hnb, -⟩ := hb.form
 have hnn : na = nb := by omega
 subst hnn
 have hna9 : na <= 50000000 := by omega
 have t1 : ((na : Int) != na) = false := by simp
 have hSP := sized_zip ha.sized hb.sized
 obtain ⟨ps, hps⟩ : ∃ ps, ps = List.zipWith (fun x y => x * y) a b := ⟨_, rfl⟩
 have hpl : ps.length = na := by rw [hps, List.length_zipWith, <- hlen]; omega
 obtain ⟨z, hz⟩ : ∃ z, z = dotL a b := ⟨_, rfl⟩
 rw [<- hz]
 have hz2 : z = sumR ps := by rw [hz, hps]; rfl
 rw [<- hps] at hSP
 have HZ := hide hz2; have HPS := hide hps; have HSP := hide hSP; have HPL := hide hpl
 have HSZ : Hid (∀ j, j <= na -> Sized (sumR (ps.take j)) 50000000 /\ (ps.take j).length * (k + 1 + (m + 1) + 1) + 1 <= 50000000) := hide (by
  intro j hj
  have h1 : (ps.take j).length * (k + 1 + (m + 1) + 1) + 1 <= 50000000 := by
   have h2 : (ps.take j).length <= a.length := by rw [List.length_take]; omega
   have h3 := Nat.mul_le_mul h2 (show k + 1 + (m + 1) + 1 <= k + m + 4 by omega)
   rw [Nat.add_mul] at hsz
   omega
  exact ⟨(sized_sumR (K := k + 1 + (m + 1)) fun q hq => hSP q (List.mem_of_mem_take hq)).mono h1, h1⟩)
 clear ha hb hlen hna hz hz2 hps hSP hpl hnb hsz hKM
 obtain ⟨W0, hW0⟩ : ∃ W0, W0 = w.alloc (Obj.cells #[Value.bool false, Value.slice none 0 0, Value.bool false, Value.slice none 0 0] 36) := ⟨_, rfl⟩
 obtain ⟨hb0, r1, hsz0⟩ := boxes1 w [.bool false, .slice none 0 0, .bool false, .slice none 0 0] 36 hW0
 have R1 := hide r1; have B0' := hide hb0; have HW0 := hide hW0
 clear r1 hb0 hW0
 go_enter Tryz.func71, Tryz.ntmps71
 go_wp2_with fail
 rw [<- HW0.out]
 refine (lzero_calls _).mono ?_
 rintro e w1 ⟨v1, rfl, o1, b1⟩
 obtain ⟨s1, P1, q1, e1, P1', q1', e1', rfl, o1⟩ := o1.open_; have O1 := hide o1; clear o1
 have hs1 := b1.size
 go_wp2_with fail
 obtain ⟨V1, hV1⟩ : ∃ V1, V1 = w1.alloc (Obj.cells #[Value.bool s1, Value.slice P1 q1 e1, Value.bool false, Value.slice P1' q1' e1'] 36) := ⟨_, rfl⟩
 have c1' : Later w1 V1 := by rw [hV1]; exact (Later.refl w1).alloc _
 have x1 : Row V1 w1.heap.size 36 [.bool s1, .slice P1 q1 e1, .bool false, .slice P1' q1' e1'] := by rw [hV1]; exact Row.new w1 _ _
 have hsV1 : V1.heap.size = w1.heap.size + 1 := by rw [hV1]; simp
 rw [<- hV1]
 have X1 := hide x1; have C1 := hide c1'
 have hL1 := (B0'.out.trans b1).trans c1'
 clear hV1 x1 c1'
 refine (pairs0_calls _ _ _ a b (ERaw k) (ERaw m) ERaw.later ERaw.later (HA.out.later ERaw.later hL1) (HB.out.later ERaw.later hL1) (by rw [HLEN.out]; exact Nat.le_refl _) (by omega) _ ⟨fun _ _ => by kernel_rfl⟩ (fun x y => x * y)
  (fun W vx vy x y hW hx hy _ _ => rmul_calls W vx vy x y k m hx hy (by omega))).mono ?_
 rintro e w2 ⟨v2, rfl, o2, b2⟩
 rw [<- HPS.out] at o2
 obtain ⟨P0, np, cp, rfl, hnp, -, -, -⟩ := o2.now.form
 have hnp2 : np = na := by rw [hnp, HPL.out]
 subst hnp2
 have hs2 := b2.size
 have HD : Hid (DotAt w w1.heap.size ps (.slice P0 np cp) 0 w2) := hide ⟨s1, P1, q1, e1, P1', q1', e1', X1.out.later b2, (((On.ownR O1.out).mono (fun b hb hlt => ⟨by omega, by omega⟩)).later C1.out).later b2, On.mono o2 (fun b hb _ => ⟨by omega, by omega⟩), R1.out.later ((b1.trans C1.out).trans b2), hL1.trans b2, by omega⟩
 clear o2 hnp hL1
 go_wp2_with fail
 go_loopw [20] (fun i wr => ∃ j : Nat, j <= np /\ i = .int .i64 (j : Int) /\ Hid (DotAt w w1.heap.size ps (.slice P0 np cp) j wr)) (fun i _ => (np - intOf i).toNat)
 case atStart => exact ⟨0, by omega, rfl, HD⟩
 case round =>
  obtain ⟨j, hj, rfl, hrel⟩ := hrel
  obtain ⟨s, A, n, c, A', n', c', rg, os, op, r1, hL, hgB⟩ := hrel.out
  by_cases hjn : j < np
  ·obtain ⟨x, hx⟩ : ∃ x, ps[j]? = some x := ⟨ps[j]'(by rw [HPL.out]; exact hjn), List.getElem?_eq_getElem _⟩
   obtain ⟨b', off', sx, A1, n1, c1, sx', A2, n2, c2, rfl, x1, x2, x3, x4, ex⟩ := op.now.at_ hx
   have ex' : OwnR wr 0 (.agg #[.bool sx, .slice A1 n1 c1, .bool sx', .slice A2 n2 c2]) x := ex
   have hsx : sx' = false := by have := ex'.den.sign; rw [this]; simp
   subst hsx
   have hln := ex'.num.len
   have hsum : sumR (ps.take (j+1)) = sumR (ps.take j) + x := by
    rw [List.take_add_one, hx]; exact sumR_snoc _ _
   have HSUM := hide hsum; have EX := hide ex'; have RG := hide rg; have OS := hide os; have OP := hide op; have R1' := hide r1; have HL := hide hL
   have hxs := HSP.out x (List.mem_of_getElem? hx)
   have HXS := hide hxs
   have hszj := (HSZ.out j hj).1
   have HSJ := hide hszj
   have hsizes := rg.lt
   have hj0 : (0 : Int) <= (j : Int) := by omega
   have hj1 : (j : Int) < np := by omega
   by_cases hz0 : 0 < n1
   ·have t2 : decide (0 < n1) = true := by simpa using hz0
    obtain ⟨d1, d2, d3, d4, d5, d6, d7, d8⟩ := row_cells4 (rg.alloc (Obj.cells #[Value.bool sx, Value.slice A1 n1 c1, Value.bool false, Value.slice A2 n2 c2] 36))
    clear rg os op r1 hL hrel hx hln hsum hxs hszj ex ex'
    go_wp2_with fail
    obtain ⟨V2, hV2⟩ : ∃ V, V = wr.alloc (Obj.cells #[Value.bool sx, Value.slice A1 n1 c1, Value.bool false, Value.slice A2 n2 c2] 36) := ⟨_, rfl⟩
    have c2' : Later wr V2 := by rw [hV2]; exact (Later.refl wr).alloc _
    have hsV2 : V2.heap.size = wr.heap.size + 1 := by rw [hV2]; simp
    rw [<- hV2]
    clear hV2 d1 d2 d3 d4 d5 d6 d7 d8 x1 x2 x3 x4
    refine (radd_calls _ _ _ (sumR (ps.take j)) x 50000000 (k + 1 + (m + 1)) ((OS.out.now.raw HSJ.out).later c2') ((EX.out.raw HXS.out).later c2') (by omega)).mono ?_
    rintro e w5 ⟨v5, rfl, o5, b5⟩
    obtain ⟨s5, P5, q5, e5, P5', q5', e5', rfl, o5⟩ := o5.open_; have O5 := hide o5; clear o5
    have k5 := c2'.trans b5
    obtain ⟨d1, d2, d3, d4, d5, d6, d7, d8⟩ := row_cells4 (RG.out.later k5)
    have HRG := hide (RG.out.later k5)
    have hs5 := k5.size
    have HD2 : Hid (DotAt w w1.heap.size ps (.slice (some ⟨b', off', none⟩) np cp) (j+1) ((((w5.setCell ⟨w1.heap.size, 0, none⟩ (.bool s5)).setCell ⟨w1.heap.size, 1, none⟩ (.slice P5 q5 e5)).setCell ⟨w1.heap.size, 2, none⟩ (.bool false)).setCell ⟨w1.heap.size, 3, none⟩ (.slice P5' q5' e5'))) := hide (by
     have oo := Only.four w1.heap.size w5 (.bool s5) (.slice P5 q5 e5) (.bool false) (.slice P5' q5' e5')
     refine ⟨_, _, _, _, _, _, _, HRG.out.four _ _ _ _, ?_, (OP.out.later k5).only oo (by simp), (R1'.out.later k5).only oo (by omega), (HL.out.trans k5).only oo (by omega), hgB⟩
     rw [HSUM.out]
     exact ((On.ownR O5.out).mono (fun b hb _ => ⟨by omega, by omega⟩)).only oo (by simp))
    clear k5 c2' b5
    go_wp2_with fail
    exact ⟨⟨j+1, by omega, by go_num, HD2⟩, by simp [intOf]; omega⟩
   ·have hn0 : n1 = 0 := by omega
    have hx0 : x = 0 := by
     apply Rat.num_eq_zero.1
     have : limbs x.num.natAbs = [] := List.eq_nil_of_length_eq_zero (by omega)
     have := limbs_eq_nil.1 this
     omega
    subst hn0
    have HD2 : Hid (DotAt w w1.heap.size ps (.slice (some ⟨b', off', none⟩) np cp) (j+1) (wr.alloc (Obj.cells #[Value.bool sx, Value.slice A1 0 c1, Value.bool false, Value.slice A2 n2 c2] 36))) := hide (by
     refine ⟨_, _, _, _, _, _, _, RG.out.alloc _, ?_, OP.out.later ((Later.refl _).alloc _), R1'.out.alloc _, HL.out.alloc _, hgB⟩
     rw [HSUM.out, hx0, Rat.add_zero]
     exact OS.out.later ((Later.refl _).alloc _))
    clear rg os op r1 hL hrel hx hln hsum hxs hszj ex ex' hx0
    go_wp2_with fail
    exact ⟨⟨j+1, by omega, by go_num, HD2⟩, by simp [intOf]; omega⟩
  ·obtain rfl : j = np := by omega
   rw [List.take_of_length_le (by rw [HPL.out]; exact Nat.le_refl _), <- HZ.out] at os
   obtain ⟨d1, d2, d3, d4, d5, d6, d7, d8⟩ := row_cells4 rg
   obtain ⟨f1, f2, f3, f4, f5, f6, f7, f8⟩ := row_cells4 r1
   have HR := hide r1; have OS := hide os
   clear rg os op r1 hrel
   go_wp2_with fail
   refine bodyPost_ret (results_rat_bool rfl rfl rfl (HR.out.four _ _ _ _)) rfl ?_
   have oo := Only.four w.heap.size wr (.bool s) (.slice A n c) (.bool false) (.slice A' n' c')
   exact ⟨_, _, rfl, ⟨OwnR.of_on (OS.out.only oo (by omega)) (fun b h => by omega), rfl⟩, hL.only oo (Nat.le_refl _)⟩
end Go.Proofs.YtfokplidiboabaaGreat
namespace Go.Proofs.YtfokplidiboabaaGreat
open Go.RowKit Go.Shelf
attribute [local go_sem ↓] Go.wp_at_zero Go.wp_at_succ
def RDotAt (w : World) (g : Nat) (ps : List Rat) (k : Nat) (wr : World) : Prop :=
 ∃ s A n c A' n' c', Row wr g 36 [.bool s, .slice A n c, .bool false, .slice A' n' c'] /\ On wr (fun b => w.heap.size < b /\ b ≠ g) (fun W => OwnR W 0 (.agg #[.bool s, .slice A n c, .bool false, .slice A' n' c']) (sumR (ps.take k))) /\
   Row wr w.heap.size 36 [.bool false, .slice none 0 0, .bool false, .slice none 0 0] /\ Later w wr /\ w.heap.size < g
set_option maxHeartbeats 4000000 in
theorem qdot_calls (w : World) (va vb : Value) (a b : List Rat) (k m : Nat) (ha : Rats (ERaw k) w va a) (hb : Rats (ERaw m) w vb b) (hlen : a.length = b.length) (hsz : (a.length + 1) * (k + m + 4) <= 20000000) :
 Calls Tryz.prog 36 #[va, vb] w (Ret2 w fun w' v o => OwnR w' w.heap.size v (dotL a b) /\ o = .bool true) := by
 have HA := hide ha; have HB := hide hb; have HLEN := hide hlen
 have hKM := Nat.mul_le_mul (Nat.le_add_left 1 a.length) (Nat.le_refl (k + m + 4))
 have hl9 : a.length <= 20000000 := by
  have h := Nat.mul_le_mul (Nat.le_add_right a.length 1) (show 1 <= k + m + 4 by omega)
  omega
 have hkm : k + m + 4 <= 20000000 := by omega
 obtain ⟨A0, na, ca, rfl, hna, -⟩ := ha.form
 obtain ⟨B0, nb, cb, rfl, hnb, -⟩ := hb.form
 have hnn : na = nb := by omega
 subst hnn
 have hna9 : na <= 20000000 := by omega
 have t1 : ((na : Int) != na) = false := by simp
 have hSP := sized_zip ha.sized hb.sized
 obtain ⟨ps, hps⟩ : ∃ ps, ps = List.zipWith (fun x y => x * y) a b := ⟨_, rfl⟩
 have hpl : ps.length = na := by rw [hps, List.length_zipWith, <- hlen]; omega
 obtain ⟨z, hz⟩ : ∃ z, z = dotL a b := ⟨_, rfl⟩
 rw [<- hz]
 have hz2 : z = sumR ps := by rw [hz, hps]; rfl
 rw [<- hps] at hSP
 have HZ := hide hz2; have HPS := hide hps; have HSP := hide hSP; have HPL := hide hpl; have HNA := hide hna; have HNB := hide hnb
 have HSZ : Hid (∀ j, j <= na -> Sized (sumR (ps.take j)) 20000000) := hide (by
  intro j hj
  have h1 : (ps.take j).length * (k + 1 + (m + 1) + 1) + 1 <= 20000000 := by
   have h2 : (ps.take j).length <= a.length := by rw [List.length_take]; omega
   have h3 := Nat.mul_le_mul h2 (show k + 1 + (m + 1) + 1 <= k + m + 4 by omega)
   rw [Nat.add_mul] at hsz
   omega
  exact (sized_sumR (K := k + 1 + (m + 1)) fun q hq => hSP q (List.mem_of_mem_take hq)).mono h1)
 clear ha hb hlen hna hz hz2 hps hSP hpl hnb hsz hKM
 obtain ⟨W0, hW0⟩ : ∃ W0, W0 = w.alloc (Obj.cells #[Value.bool false, Value.slice none 0 0, Value.bool false, Value.slice none 0 0] 36) := ⟨_, rfl⟩
 obtain ⟨hb0, r1, hsz0⟩ := boxes1 w [.bool false, .slice none 0 0, .bool false, .slice none 0 0] 36 hW0
 have R1 := hide r1; have B0' := hide hb0; have HW0 := hide hW0
 clear r1 hb0 hW0
 go_enter Tryz.func36, Tryz.ntmps36
 go_wp2_with fail
 rw [<- HW0.out]
 refine (qzero_calls _).mono ?_
 rintro e w1 ⟨v1, rfl, o1, b1⟩
 obtain ⟨s1, P1, q1, e1, P1', q1', e1', rfl, o1⟩ := o1.open_; have O1 := hide o1; clear o1
 have hs1 := b1.size
 have HD : Hid (RDotAt w w1.heap.size ps 0 (w1.alloc (Obj.cells #[Value.bool s1, Value.slice P1 q1 e1, Value.bool false, Value.slice P1' q1' e1'] 36))) := hide ⟨s1, P1, q1, e1, P1', q1', e1', Row.new w1 36 [.bool s1, .slice P1 q1 e1, .bool false, .slice P1' q1' e1'], ((On.ownR O1.out).mono (fun b hb hlt => ⟨by omega, by omega⟩)).later ((Later.refl _).alloc _), R1.out.later (b1.alloc _), (B0'.out.trans b1).alloc _, by omega⟩
 go_wp2_with fail
 go_loopw [7] (fun i wr => ∃ j : Nat, j <= na /\ i = .int .i64 (j : Int) /\ Hid (RDotAt w w1.heap.size ps j wr)) (fun i _ => (na - intOf i).toNat)
 case atStart => exact ⟨0, by omega, rfl, HD⟩
 case round =>
  obtain ⟨j, hj, rfl, hrel⟩ := hrel
  obtain ⟨s, A, n, c, A', n', c', rg, os, r1, hL, hgB⟩ := hrel.out
  by_cases hjn : j < na
  ·obtain ⟨x, hx⟩ : ∃ x, a[j]? = some x := ⟨a[j]'(by have := HNA.out; omega), List.getElem?_eq_getElem _⟩
   obtain ⟨y, hy⟩ : ∃ y, b[j]? = some y := ⟨b[j]'(by have := HNB.out; omega), List.getElem?_eq_getElem _⟩
   obtain ⟨b1, off1, sx, A1, n1, c1, sx', A2, n2, c2, rfl, x1, x2, x3, x4, ex⟩ := (HA.out.later ERaw.later hL).at_ hx
   obtain ⟨b2, off2, sy, A3, n3, c3, sy', A4, n4, c4, rfl, y1, y2, y3, y4, ey⟩ := (HB.out.later ERaw.later hL).at_ hy
   have hp : ps[j]? = some (x * y) := by rw [HPS.out, List.getElem?_zipWith, hx, hy]
   have hsum : sumR (ps.take (j+1)) = sumR (ps.take j) + x * y := by
    rw [List.take_add_one, hp]; exact sumR_snoc _ _
   have HSUM := hide hsum; have HL := hide (hL.drew)
   have HXS := hide ((((RawR.sized ex).mul (RawR.sized ey)).mono (by omega : k + 1 + (m + 1) <= k + m + 2)))
   have EX : Hid (RawR wr.drew (.agg #[.bool sx, .slice A1 n1 c1, .bool sx', .slice A2 n2 c2]) x k) := hide (RawR.later ex (Later.refl wr).drew); have EY : Hid (RawR wr.drew (.agg #[.bool sy, .slice A3 n3 c3, .bool sy', .slice A4 n4 c4]) y m) := hide (RawR.later ey (Later.refl wr).drew)
   have RG := hide rg.drew; have OS := hide (os.later (Later.refl wr).drew); have R1' := hide r1.drew
   have HSJ := hide (HSZ.out j hj)
   have hsizes : w1.heap.size < wr.drew.heap.size := rg.lt
   have hj0 : (0 : Int) <= (j : Int) := by omega
   have hj1 : (j : Int) < na := by omega
   have HS : Hid (∀ w', Later wr.drew w' -> w'.cell? ⟨w1.heap.size, 0, none⟩ = some (.bool s) /\ w'.cell? ⟨w1.heap.size, 1, none⟩ = some (.slice A n c) /\ w'.cell? ⟨w1.heap.size, 2, none⟩ = some (.bool false) /\ w'.cell? ⟨w1.heap.size, 3, none⟩ = some (.slice A' n' c') /\ w'.cell? ⟨b1, off1 + j * 4, none⟩ = some (.bool sx) /\ w'.cell? ⟨b1, off1 + j * 4 + 1, none⟩ = some (.slice A1 n1 c1) /\ w'.cell? ⟨b1, off1 + j * 4 + 2, none⟩ = some (.bool sx') /\ w'.cell? ⟨b1, off1 + j * 4 + 3, none⟩ = some (.slice A2 n2 c2) /\ w'.cell? ⟨b2, off2 + j * 4, none⟩ = some (.bool sy) /\ w'.cell? ⟨b2, off2 + j * 4 + 1, none⟩ = some (.slice A3 n3 c3) /\ w'.cell? ⟨b2, off2 + j * 4 + 2, none⟩ = some (.bool sy') /\ w'.cell? ⟨b2, off2 + j * 4 + 3, none⟩ = some (.slice A4 n4 c4)) := hide fun w' hb => ⟨(RG.out.later hb).cell rfl, (RG.out.later hb).cell rfl, (RG.out.later hb).cell rfl, (RG.out.later hb).cell rfl,
    Later.cell hb x1, Later.cell hb x2, Later.cell hb x3, Later.cell hb x4, Later.cell hb y1, Later.cell hb y2, Later.cell hb y3, Later.cell hb y4⟩
   have hmx : Tryz.prog.follows .mixedOrders = true := by kernel_rfl
   clear rg os r1 hL hrel hx hy hp hsum x1 x2 x3 x4 y1 y2 y3 y4 ex ey
   go_upto_region 7 with fail
   refine wp_region_N (fun w' => w'.cell? ⟨w1.heap.size, 0, none⟩ = some (.bool s) /\ w'.cell? ⟨w1.heap.size, 1, none⟩ = some (.slice A n c) /\ w'.cell? ⟨w1.heap.size, 2, none⟩ = some (.bool false) /\ w'.cell? ⟨w1.heap.size, 3, none⟩ = some (.slice A' n' c') /\ w'.cell? ⟨b1, off1 + j * 4, none⟩ = some (.bool sx) /\ w'.cell? ⟨b1, off1 + j * 4 + 1, none⟩ = some (.slice A1 n1 c1) /\ w'.cell? ⟨b1, off1 + j * 4 + 2, none⟩ = some (.bool sx') /\ w'.cell? ⟨b1, off1 + j * 4 + 3, none⟩ = some (.slice A2 n2 c2) /\ w'.cell? ⟨b2, off2 + j * 4, none⟩ = some (.bool sy) /\ w'.cell? ⟨b2, off2 + j * 4 + 1, none⟩ = some (.slice A3 n3 c3) /\ w'.cell? ⟨b2, off2 + j * 4 + 2, none⟩ = some (.bool sy') /\ w'.cell? ⟨b2, off2 + j * 4 + 3, none⟩ = some (.slice A4 n4 c4)) [11] hmx (HS.out _ (Later.refl _)) (fun hHeld => ?_)
   refine wpAnyN_take (i := 0) (oi := _) (v := ?_) rfl (by kernel_rfl) (by kernel_rfl) (by kernel_rfl) (by kernel_rfl) (fun _ _ _ h => h) (Or.inl ⟨by rfl, ?_⟩) (by assumption) ?_
   rotate_left
   ·intro w hSw; (try dsimp only at hSw); go_simp
    first | done | with_reducible rfl
   try simp only [Act.put, s1_, s2_, s3_]
   refine wpAnyN_take (i := 1) (oi := _) (v := ?_) rfl (by kernel_rfl) (by kernel_rfl) (by kernel_rfl) (by kernel_rfl) (fun _ _ _ h => h) (Or.inl ⟨by rfl, ?_⟩) (by assumption) ?_
   rotate_left
   ·intro w hSw; (try dsimp only at hSw); go_simp
    first | done | with_reducible rfl
   try simp only [Act.put, s1_, s2_, s3_]
   refine wpAnyN_take (i := 2) (oi := _) (v := ?_) rfl (by kernel_rfl) (by kernel_rfl) (by kernel_rfl) (by kernel_rfl) (fun _ _ _ h => h) (Or.inl ⟨by rfl, ?_⟩) (by assumption) ?_
   rotate_left
   ·intro w hSw; (try dsimp only at hSw); go_simp
    first | done | with_reducible rfl
   try simp only [Act.put, s1_, s2_, s3_]
   refine wpAnyN_take (i := 3) (oi := _) (v := ?_) rfl (by kernel_rfl) (by kernel_rfl) (by kernel_rfl) (by kernel_rfl) (fun _ _ _ h => h) (Or.inl ⟨by rfl, ?_⟩) (by assumption) ?_
   rotate_left
   ·intro w hSw; (try dsimp only at hSw); go_simp
    first | done | with_reducible rfl
   try simp only [Act.put, s1_, s2_, s3_]
   refine wpAnyN_take (i := 4) (oi := _) (v := ?_) rfl (by kernel_rfl) (by kernel_rfl) (by kernel_rfl) (by kernel_rfl) (fun _ _ _ h => h) (Or.inl ⟨by rfl, ?_⟩) (by assumption) ?_
   rotate_left
   ·intro w hSw; (try dsimp only at hSw); go_simp
    first | done | with_reducible rfl
   try simp only [Act.put, s1_, s2_, s3_]
   refine wpAnyN_take (i := 5) (oi := _) (v := ?_) rfl (by kernel_rfl) (by kernel_rfl) (by kernel_rfl) (by kernel_rfl) (fun _ _ _ h => h) (Or.inl ⟨by rfl, ?_⟩) (by assumption) ?_
   rotate_left
   ·intro w hSw; (try dsimp only at hSw); go_simp
    first | done | with_reducible rfl
   try simp only [Act.put, s1_, s2_, s3_]
   refine wpAnyN_take (i := 6) (oi := _) (v := ?_) rfl (by kernel_rfl) (by kernel_rfl) (by kernel_rfl) (by kernel_rfl) (fun _ _ _ h => h) (Or.inl ⟨by rfl, ?_⟩) (by assumption) ?_
   rotate_left
   ·intro w hSw; (try dsimp only at hSw); go_simp
    first | done | with_reducible rfl
   try simp only [Act.put, s1_, s2_, s3_]
   refine wpAnyN_take (i := 7) (oi := _) (v := ?_) rfl (by kernel_rfl) (by kernel_rfl) (by kernel_rfl) (by kernel_rfl) (fun _ _ _ h => h) (Or.inl ⟨by rfl, ?_⟩) (by assumption) ?_
   rotate_left
   ·intro w hSw; (try dsimp only at hSw); go_simp
    first | done | with_reducible rfl
   try simp only [Act.put, s1_, s2_, s3_]
   refine wpAnyN_take (i := 8) (oi := _) (v := ?_) rfl (by kernel_rfl) (by kernel_rfl) (by kernel_rfl) (by kernel_rfl) (fun _ _ _ h => h) (Or.inl ⟨by rfl, ?_⟩) (by assumption) ?_
   rotate_left
   ·intro w hSw; (try dsimp only at hSw); go_simp
    first | done | with_reducible rfl
   try simp only [Act.put, s1_, s2_, s3_]
   refine wpAnyN_ready (rs := [9]) (by kernel_rfl) (by simp) ?_
   refine AllReadyN.held rfl (by rfl) (fun K hK => ?_) AllReadyN.nil
   go_simp
   (with_reducible refine (qmul_calls _ _ _ x y k m (EX.out) (EY.out) (by omega)).mono ?_)
   rintro e w8 ⟨v8, rfl, o8, b8⟩
   obtain ⟨s8, P8, q8, e8, P8', q8', e8', rfl, o8⟩ := o8.open_; have O8 := hide o8; clear o8
   refine hK.out _ _ ?_ (fun hHeld => ?_)
   ·exact HS.out _ b8
   clear hK K
   try simp only [Act.put, s1_, s2_, s3_]
   refine wpAnyN_ready (rs := [10]) (by kernel_rfl) (by simp) ?_
   refine AllReadyN.held rfl (by rfl) (fun K hK => ?_) AllReadyN.nil
   go_simp
   (with_reducible refine (qadd_calls _ _ _ (sumR (ps.take j)) (x * y) 20000000 (k + m + 2) ((OS.out.now.raw HSJ.out).later b8) (O8.out.raw HXS.out) (by omega)).mono ?_)
   rintro e w9 ⟨v9, rfl, o9, b9⟩
   obtain ⟨s9, P9, q9, e9, P9', q9', e9', rfl, o9⟩ := o9.open_; have O9 := hide o9; clear o9
   have k9 := b8.trans b9
   have hs8 := b8.size
   obtain ⟨d1, d2, d3, d4, d5, d6, d7, d8⟩ := row_cells4 (RG.out.later k9)
   refine hK.out _ _ ?_ (fun hHeld => ?_)
   ·exact HS.out _ (b8.trans b9)
   clear hK K
   try simp only [Act.put, s1_, s2_, s3_]
   refine wpAnyN_ready (rs := [11]) (by kernel_rfl) (by simp) ?_
   refine AllReadyN.free rfl (by rfl) (by kernel_rfl) (fun K hK => ?_) AllReadyN.nil
   go_simp
   refine hK.out _ _ ?_
   clear hK K
   try simp only [Act.put, s1_, s2_, s3_]
   refine wpAnyN_done (by kernel_rfl) ?_ _
   have HRG := hide (RG.out.later k9)
   have hs5 := k9.size
   have HD2 : Hid (RDotAt w w1.heap.size ps (j+1) ((((w9.setCell ⟨w1.heap.size, 0, none⟩ (.bool s9)).setCell ⟨w1.heap.size, 1, none⟩ (.slice P9 q9 e9)).setCell ⟨w1.heap.size, 2, none⟩ (.bool false)).setCell ⟨w1.heap.size, 3, none⟩ (.slice P9' q9' e9'))) := hide (by
    have oo := Only.four w1.heap.size w9 (.bool s9) (.slice P9 q9 e9) (.bool false) (.slice P9' q9' e9')
    refine ⟨_, _, _, _, _, _, _, HRG.out.four _ _ _ _, ?_, (R1'.out.later k9).only oo (by omega), (HL.out.trans k9).only oo (by omega), hgB⟩
    rw [HSUM.out]
    exact ((On.ownR O9.out).mono (fun b hb _ => ⟨by omega, by omega⟩)).only oo (by simp))
   clear d1 d2 d3 d4 d5 d6 d7 d8 hHeld
   go_wp2_with fail
   exact ⟨⟨j+1, by omega, by go_num, HD2⟩, by simp [intOf]; omega⟩
  ·obtain rfl : j = na := by omega
   rw [List.take_of_length_le (by rw [HPL.out]; exact Nat.le_refl _), <- HZ.out] at os
   obtain ⟨d1, d2, d3, d4, d5, d6, d7, d8⟩ := row_cells4 rg
   obtain ⟨f1, f2, f3, f4, f5, f6, f7, f8⟩ := row_cells4 r1
   have HR := hide r1; have OS := hide os
   clear rg os r1 hrel
   go_wp2_with fail
   refine bodyPost_ret (results_rat_bool rfl rfl rfl (HR.out.four _ _ _ _)) rfl ?_
   have oo := Only.four w.heap.size wr (.bool s) (.slice A n c) (.bool false) (.slice A' n' c')
   exact ⟨_, _, rfl, ⟨OwnR.of_on (OS.out.only oo (by omega)) (fun b h => by omega), rfl⟩, hL.only oo (Nat.le_refl _)⟩
end Go.Proofs.YtfokplidiboabaaGreat
namespace Go.Proofs.YtfokplidiboabaaGreat
open Go.RowKit Go.Shelf
attribute [local go_sem ↓] Go.wp_at_zero Go.wp_at_succ
set_option maxHeartbeats 4000000 in
theorem lsame_calls (w : World) (va vb : Value) (a b : List Rat) (k m : Nat) (ha : Rats EOwn w va a) (hb : Rats EOwn w vb b) (hA : ∀ q ∈ a, Sized q k) (hB : ∀ q ∈ b, Sized q m) (hk : k <= 1000000000) (hm : m <= 1000000000) (hla : a.length <= 1000000000) (t : Bool) (ht : decide (a = b) = t) :
 Calls Tryz.prog 30 #[va, vb] w (RetV w (.bool t)) := by
 have HA := hide ha; have HB := hide hb; have HT := hide ht; have SA := hide hA; have SB := hide hB
 obtain ⟨A0, na, ca, rfl, hna, -⟩ := ha.form
 obtain ⟨B0, nb, cb, rfl, hnb, -⟩ := hb.form
 have HNA := hide hna; have HNB := hide hnb
 have hna9 : na <= 1000000000 := by omega
 clear ha hb ht hna hnb hA hB hla
 by_cases hne : na = nb
 ·subst hne
  have t1 : ((na : Int) != na) = false := by simp
  go_enter Tryz.func30, Tryz.ntmps30
  go_wp2_with fail
  go_loopw [5] (fun i wr => ∃ j : Nat, j <= na /\ i = .int .i64 (j : Int) /\ Hid (a.take j = b.take j) /\ Later w wr) (fun i _ => (na - intOf i).toNat)
  case atStart => exact ⟨0, by omega, rfl, hide rfl, Later.refl w⟩
  case round =>
   obtain ⟨j, hj, rfl, hpre, hL⟩ := hrel
   by_cases hjn : j < na
   ·obtain ⟨x, hx⟩ : ∃ x, a[j]? = some x := ⟨a[j]'(by have := HNA.out; omega), List.getElem?_eq_getElem _⟩
    obtain ⟨y, hy⟩ : ∃ y, b[j]? = some y := ⟨b[j]'(by have := HNB.out; omega), List.getElem?_eq_getElem _⟩
    obtain ⟨b1, off1, sx, A1, n1, c1, sx', A2, n2, c2, rfl, x1, x2, x3, x4, ex⟩ := (HA.out.later EOwn.later hL).at_ hx
    obtain ⟨b2, off2, sy, A3, n3, c3, sy', A4, n4, c4, rfl, y1, y2, y3, y4, ey⟩ := (HB.out.later EOwn.later hL).at_ hy
    have hstep : x = y ↔ a.take (j+1) = b.take (j+1) := by
     rw [List.take_add_one, List.take_add_one, hx, hy, hpre.out]; simp
    have HSX := hide (SA.out x (List.mem_of_getElem? hx)); have HSY := hide (SB.out y (List.mem_of_getElem? hy))
    have HST := hide hstep
    have EX : Hid (OwnR wr.drew 0 (.agg #[.bool sx, .slice A1 n1 c1, .bool sx', .slice A2 n2 c2]) x) := hide (OwnR.later ex (Later.refl wr).drew); have EY : Hid (OwnR wr.drew 0 (.agg #[.bool sy, .slice A3 n3 c3, .bool sy', .slice A4 n4 c4]) y) := hide (OwnR.later ey (Later.refl wr).drew)
    obtain ⟨u, hu⟩ : ∃ u, decide (x = y) = u := ⟨_, rfl⟩
    have HU := hide hu
    have hj0 : (0 : Int) <= (j : Int) := by omega
    have hj1 : (j : Int) < na := by omega
    have HS : Hid (∀ w', Later wr.drew w' -> w'.cell? ⟨b1, off1 + j * 4, none⟩ = some (.bool sx) /\ w'.cell? ⟨b1, off1 + j * 4 + 1, none⟩ = some (.slice A1 n1 c1) /\ w'.cell? ⟨b1, off1 + j * 4 + 2, none⟩ = some (.bool sx') /\ w'.cell? ⟨b1, off1 + j * 4 + 3, none⟩ = some (.slice A2 n2 c2) /\ w'.cell? ⟨b2, off2 + j * 4, none⟩ = some (.bool sy) /\ w'.cell? ⟨b2, off2 + j * 4 + 1, none⟩ = some (.slice A3 n3 c3) /\ w'.cell? ⟨b2, off2 + j * 4 + 2, none⟩ = some (.bool sy') /\ w'.cell? ⟨b2, off2 + j * 4 + 3, none⟩ = some (.slice A4 n4 c4)) := hide fun w' hb => ⟨Later.cell hb x1, Later.cell hb x2, Later.cell hb x3, Later.cell hb x4, Later.cell hb y1, Later.cell hb y2, Later.cell hb y3, Later.cell hb y4⟩
    clear hx hy hstep x1 x2 x3 x4 y1 y2 y3 y4 ex ey hu
    go_upto_region 6 with fail
    rename_i K2 hK2
    go_region_held3 (fun w' => w'.cell? ⟨b1, off1 + j * 4, none⟩ = some (.bool sx) /\ w'.cell? ⟨b1, off1 + j * 4 + 1, none⟩ = some (.slice A1 n1 c1) /\ w'.cell? ⟨b1, off1 + j * 4 + 2, none⟩ = some (.bool sx') /\ w'.cell? ⟨b1, off1 + j * 4 + 3, none⟩ = some (.slice A2 n2 c2) /\ w'.cell? ⟨b2, off2 + j * 4, none⟩ = some (.bool sy) /\ w'.cell? ⟨b2, off2 + j * 4 + 1, none⟩ = some (.slice A3 n3 c3) /\ w'.cell? ⟨b2, off2 + j * 4 + 2, none⟩ = some (.bool sy') /\ w'.cell? ⟨b2, off2 + j * 4 + 3, none⟩ = some (.slice A4 n4 c4))
     (first | exact HS.out _ (Later.refl _) | exact HS.out _ b8)
     (first
      | ((with_reducible refine (qsame_calls _ _ _ x y 0 0 k m EX.out EY.out HSX.out HSY.out hk hm u HU.out).mono ?_); rintro e w8 ⟨rfl, b8⟩))
    show K2 _ _
    refine hK2 _ _ ?_
    have hL8 := hL.trans ((Later.refl wr).drew.trans b8)
    clear hK2
    cases u
    case true =>
     have HP := hide (HST.out.1 (by have := HU.out; simpa using this))
     go_wp2
     go_roundw
     case rel => exact ⟨j+1, by omega, by go_num, HP, hL8⟩
     case measure => simp [intOf]; omega
    case false =>
     have hf : t = false := by
      rw [<- HT.out]; simp only [decide_eq_false_iff_not]
      intro e
      have h1 := HST.out.2 (by rw [e])
      have h2 := HU.out
      simp [h1] at h2
     subst hf
     go_wp2
     go_ret
     exact ⟨rfl, hL8⟩
   ·obtain rfl : j = na := by omega
    have hf : t = true := by
     have h1 := hpre.out
     rw [List.take_of_length_le (by rw [<- HNA.out]; exact Nat.le_refl _), List.take_of_length_le (by rw [<- HNB.out]; exact Nat.le_refl _)] at h1
     rw [<- HT.out]; simpa using h1
    subst hf
    go_wp2
    go_ret
    exact ⟨rfl, hL⟩
 ·have hf : t = false := by
   rw [<- HT.out]; simp only [decide_eq_false_iff_not]
   intro e; exact hne (by rw [HNA.out, HNB.out, e])
  subst hf
  have t1 : ((na : Int) != nb) = true := by rw [bne_iff_ne]; omega
  go_enter Tryz.func30, Tryz.ntmps30
  go_wp2_with fail
  go_ret
  exact ⟨rfl, Later.refl w⟩
def EAny : Elem := fun w v q => ∃ k, RawR w v q k
theorem EAny.later (w w' : World) (v : Value) (q : Rat) (h : EAny w v q) (hb : Later w w') : EAny w' v q := by
 obtain ⟨k, h⟩ := h; exact ⟨k, h.later hb⟩
theorem rawI_small {w : World} {s : Bool} {A : Option Addr} {n c k m : Nat} {z : Int} (h : RawI w (.agg #[.bool s, .slice A n c]) z k) (hn : n <= m) : RawI w (.agg #[.bool s, .slice A n c]) z m := by
 obtain ⟨neg, A3, n3, c3, l, e3, hu, hz, hl⟩ := h
 injection e3 with e3; injection e3 with e3; injection e3 with e4 e3; injection e3 with e5 e3
 obtain ⟨A4, c4, e6, -, -, -, -⟩ := hu.form
 rw [<- e5] at e6
 injection e6 with _ e7 _
 exact ⟨neg, A3, n3, c3, l, by rw [e4, e5], hu, hz, by omega⟩
theorem rawR_small {w : World} {s s' : Bool} {A A' : Option Addr} {n c n' c' m : Nat} {q : Rat} (h : EAny w (.agg #[.bool s, .slice A n c, .bool s', .slice A' n' c']) q) (hn : n <= m) (hn' : n' <= m) : RawR w (.agg #[.bool s, .slice A n c, .bool s', .slice A' n' c']) q m := by
 obtain ⟨k, a, A1, n1, c1, b, A2, n2, c2, x, y, e, h1, h2, h3⟩ := h
 injection e with e; injection e with e; injection e with e1 e; injection e with e2 e; injection e with e3 e; injection e with e4 e
 injection e1 with e1; injection e2 with e5 e6 e7; injection e3 with e3; injection e4 with e8 e9 e10
 subst e1 e3 e5 e6 e7 e8 e9 e10
 exact ⟨_, _, _, _, _, _, _, _, x, y, rfl, rawI_small h1 hn, rawI_small h2 hn', h3⟩
def RatAt (E : Elem) (w : World) (A : Option Addr) (i : Nat) (q : Rat) : Prop :=
 ∃ b off s A1 n1 c1 s' A2 n2 c2, A = some ⟨b, off, none⟩ /\ w.cell? ⟨b, off + i * 4, none⟩ = some (.bool s) /\ w.cell? ⟨b, off + i * 4 + 1, none⟩ = some (.slice A1 n1 c1) /\
   w.cell? ⟨b, off + i * 4 + 2, none⟩ = some (.bool s') /\ w.cell? ⟨b, off + i * 4 + 3, none⟩ = some (.slice A2 n2 c2) /\ E w (.agg #[.bool s, .slice A1 n1 c1, .bool s', .slice A2 n2 c2]) q
def FewPost (w : World) (v : Value) (l : List Rat) (most : Nat) (e : Ending) (w' : World) : Prop := ∃ t, e = .returned (.bool t) /\ (t = true -> l.length <= most /\ Rats (ERaw 1) w v l) /\ w = w'
set_option maxHeartbeats 4000000 in
theorem few_calls (w : World) (v : Value) (l : List Rat) (most : Nat) (h : Rats EAny w v l) (hm : most <= 1000000) :
 Calls Tryz.prog 25 #[v, .int .i64 (most : Int)] w (FewPost w v l most) := by
 have H := hide h
 obtain ⟨A0, na, ca, rfl, hna, hcap, hcm, -⟩ := h.form
 have HNA := hide hna
 clear h hna
 by_cases hle : most < na
 ·have t1 : decide ((most : Int) < na) = true := by simp; omega
  go_enter Tryz.func25, Tryz.ntmps25
  go_wp2_with fail
  go_ret
  exact ⟨false, rfl, by simp, rfl⟩
 ·have t1 : decide ((most : Int) < na) = false := by simp; omega
  go_enter Tryz.func25, Tryz.ntmps25
  go_wp2_with fail
  go_loop [5] (fun i => ∃ j : Nat, j <= na /\ i = .int .i64 (j : Int) /\ Hid (∀ i q, i < j -> l[i]? = some q -> RatAt (ERaw 1) w A0 i q)) (fun i => (na - intOf i).toNat)
  case atStart => exact ⟨0, by omega, rfl, hide fun i q hi => by omega⟩
  case round =>
   obtain ⟨j, hj, rfl, hpre⟩ := hrel
   by_cases hjn : j < na
   ·obtain ⟨x, hx⟩ : ∃ x, l[j]? = some x := ⟨l[j]'(by have := HNA.out; omega), List.getElem?_eq_getElem _⟩
    obtain ⟨b1, off1, sx, A1, n1, c1, sx', A2, n2, c2, rfl, x1, x2, x3, x4, ex⟩ := H.out.at_ hx
    have EX := hide ex; have HX := hide hx
    have hj0 : (0 : Int) <= (j : Int) := by omega
    have hj1 : (j : Int) < na := by omega
    clear ex hx
    by_cases h1 : n1 <= 1
    ·have u1 : decide ((1 : Int) < n1) = false := by simp; omega
     have u1' : decide (1 < n1) = false := by simp; omega
     by_cases h2 : n2 <= 1
     ·have u2 : decide ((1 : Int) < n2) = false := by simp; omega
      have u2' : decide (1 < n2) = false := by simp; omega
      have HP : Hid (∀ i q, i < j + 1 -> l[i]? = some q -> RatAt (ERaw 1) w (some ⟨b1, off1, none⟩) i q) := hide fun i q hi hq => by
       by_cases hij : i < j
       ·exact hpre.out i q hij hq
       ·obtain rfl : i = j := by omega
        rw [HX.out] at hq
        injection hq with hq
        subst hq
        exact ⟨b1, off1, sx, A1, n1, c1, sx', A2, n2, c2, rfl, x1, x2, x3, x4, rawR_small EX.out h1 h2⟩
      go_wp2
      go_round
      case rel => exact ⟨j+1, by omega, by go_num, HP⟩
      case measure => simp [intOf]; omega
     ·have u2 : decide ((1 : Int) < n2) = true := by simp; omega
      have u2' : decide (1 < n2) = true := by simp; omega
      go_wp2
      go_ret
      exact ⟨false, rfl, by simp, rfl⟩
    ·have u1 : decide ((1 : Int) < n1) = true := by simp; omega
     have u1' : decide (1 < n1) = true := by simp; omega
     go_wp2
     go_ret
     exact ⟨false, rfl, by simp, rfl⟩
   ·obtain rfl : j = na := by omega
    have HF : Hid (l.length <= most /\ Rats (ERaw 1) w (.slice A0 j ca) l) := hide ⟨by rw [<- HNA.out]; omega, A0, ca, by rw [HNA.out], by rw [<- HNA.out]; exact hcap, hcm, fun i q hi => hpre.out i q (by rw [HNA.out]; exact (List.getElem?_eq_some_iff.1 hi).1) hi⟩
    go_wp2
    go_ret
    exact ⟨true, rfl, fun _ => HF.out, rfl⟩
set_option maxHeartbeats 1000000 in
theorem dot_ne (w : World) (va vb : Value) (a b : List Rat) (E1 E2 : Elem) (ha : Rats E1 w va a) (hb : Rats E2 w vb b) (hlen : a.length ≠ b.length) :
 Calls Tryz.prog 71 #[va, vb] w (Ret2 w fun w' v o => OwnR w' w.heap.size v 0 /\ o = .bool false) := by
 obtain ⟨A0, na, ca, rfl, hna, -⟩ := ha.form
 obtain ⟨B0, nb, cb, rfl, hnb, -⟩ := hb.form
 have t1 : ((na : Int) != nb) = true := by rw [bne_iff_ne]; omega
 clear ha hb hlen hna hnb
 obtain ⟨W0, hW0⟩ : ∃ W0, W0 = w.alloc (Obj.cells #[Value.bool false, Value.slice none 0 0, Value.bool false, Value.slice none 0 0] 36) := ⟨_, rfl⟩
 obtain ⟨hb0, r1, hsz0⟩ := boxes1 w [.bool false, .slice none 0 0, .bool false, .slice none 0 0] 36 hW0
 have R1 := hide r1; have B0' := hide hb0; have HW0 := hide hW0
 clear r1 hb0 hW0
 go_enter Tryz.func71, Tryz.ntmps71
 go_wp2_with fail
 rw [<- HW0.out]
 refine (lzero_calls _).mono ?_
 rintro e w1 ⟨v1, rfl, o1, b1⟩
 obtain ⟨s1, P1, q1, e1, P1', q1', e1', rfl, o1⟩ := o1.open_; have O1 := hide o1; clear o1
 have hs1 := b1.size
 have HR := hide (R1.out.later b1)
 have hL := B0'.out.trans b1
 obtain ⟨d1, d2, d3, d4, d5, d6, d7, d8⟩ := row_cells4 HR.out
 go_wp2_with fail
 refine bodyPost_ret (results_rat_bool rfl rfl rfl (HR.out.four _ _ _ _)) rfl ?_
 have oo := Only.four w.heap.size w1 (.bool s1) (.slice P1 q1 e1) (.bool false) (.slice P1' q1' e1')
 exact ⟨_, _, rfl, ⟨(O1.out.only oo (by omega)).weaken (by omega), rfl⟩, hL.only oo (Nat.le_refl _)⟩
end Go.Proofs.YtfokplidiboabaaGreat
namespace Go.Proofs.YtfokplidiboabaaGreat
open Go.RowKit
def EOn (P : Nat -> Prop) (E : Elem) : Elem := fun w v q => On w P (fun W => E W v q)
theorem EOn.later {P : Nat -> Prop} {E : Elem} (w w' : World) (v : Value) (q : Rat) (h : EOn P E w v q) (hb : Later w w') : EOn P E w' v q := On.later h hb
def Tab (E : Elem) (w : World) (v : Value) (t : List (List Rat)) : Prop :=
 ∃ A c, v = .slice A t.length c /\ t.length <= c /\ c <= maxLen /\ ∀ i row, t[i]? = some row -> ∃ b off A' n' c', A = some ⟨b, off, none⟩ /\ w.cell? ⟨b, off + i, none⟩ = some (.slice A' n' c') /\ Rats E w (.slice A' n' c') row
theorem Tab.later {E : Elem} (hE : ∀ w w' v q, E w v q -> Later w w' -> E w' v q) {w w' : World} {v : Value} {t : List (List Rat)} (h : Tab E w v t) (hb : Later w w') : Tab E w' v t := by
 obtain ⟨A, c, e, h1, h2, h3⟩ := h
 refine ⟨A, c, e, h1, h2, fun i row hi => ?_⟩
 obtain ⟨b, off, A', n', c', ha, x1, x2⟩ := h3 i row hi
 exact ⟨b, off, A', n', c', ha, Later.cell hb x1, x2.later hE hb⟩
theorem Tab.map {E E' : Elem} {w : World} {v : Value} {t : List (List Rat)} (h : Tab E w v t) (hE : ∀ row ∈ t, ∀ v q, q ∈ row -> E w v q -> E' w v q) : Tab E' w v t := by
 obtain ⟨A, c, e, h1, h2, h3⟩ := h
 refine ⟨A, c, e, h1, h2, fun i row hi => ?_⟩
 obtain ⟨b, off, A', n', c', ha, x1, x2⟩ := h3 i row hi
 exact ⟨b, off, A', n', c', ha, x1, x2.map (hE row (List.mem_of_getElem? hi))⟩
theorem Tab.form {E : Elem} {w : World} {v : Value} {t : List (List Rat)} (h : Tab E w v t) : ∃ A n c, v = .slice A n c /\ n = t.length /\ n <= c /\ c <= maxLen /\ Tab E w (.slice A n c) t := by
 obtain ⟨A, c, rfl, h1, h2, h3⟩ := id h
 exact ⟨A, _, c, rfl, rfl, h1, h2, h⟩
theorem Tab.at_ {E : Elem} {w : World} {A : Option Addr} {n c : Nat} {t : List (List Rat)} (h : Tab E w (.slice A n c) t) {i : Nat} {row : List Rat} (hi : t[i]? = some row) :
 ∃ b off A' n' c', A = some ⟨b, off, none⟩ /\ w.cell? ⟨b, off + i, none⟩ = some (.slice A' n' c') /\ Rats E w (.slice A' n' c') row := by
 obtain ⟨A', c', e, -, -, h3⟩ := h
 injection e with e1 e2 e3
 subst e1
 exact h3 i row hi
def OutTab (E : Elem) (w : World) (P : Nat -> Prop) (lo : Nat) (v : Value) (t : List (List Rat)) : Prop :=
 ∃ es : List Value, es.length = t.length /\ w.ownsRow lo 22 1 v t.length es /\ (∀ e ∈ es, ∃ A n c, e = .slice A n c) /\
   On w (fun b => P b /\ some b ≠ v.ownBlock) (fun W => ∀ (i : Nat) (e : Value) (row : List Rat), es[i]? = some e -> t[i]? = some row -> Rats E W e row)
theorem OutTab.nil (E : Elem) (w : World) (P : Nat -> Prop) (lo : Nat) : OutTab E w P lo (.slice none 0 0) [] :=
 ⟨[], rfl, World.ownsRow_nil w lo _ 1, by simp, On.pure fun W i e q hi => by simp at hi⟩
theorem OutTab.later {E : Elem} {w w' : World} {P : Nat -> Prop} {lo : Nat} {v : Value} {t : List (List Rat)} (h : OutTab E w P lo v t) (hb : Later w w') : OutTab E w' P lo v t := by
 obtain ⟨es, h1, h2, h3, h4⟩ := h
 exact ⟨es, h1, ownsRow_later h2 hb, h3, h4.later hb⟩
theorem OutTab.mono {E : Elem} {w : World} {P P' : Nat -> Prop} {lo : Nat} {v : Value} {t : List (List Rat)} (h : OutTab E w P lo v t) (hp : ∀ b, P b -> b < w.heap.size -> P' b) : OutTab E w P' lo v t := by
 obtain ⟨es, h1, h2, h3, h4⟩ := h
 exact ⟨es, h1, h2, h3, h4.mono fun b hb hlt => ⟨hp b hb.1 hlt, hb.2⟩⟩
theorem ownsRow_weaken {w : World} {B C size n : Nat} {e : TypeId} {v : Value} {xs : List Value} (h : w.ownsRow B e size v n xs) (hC : C <= B) : w.ownsRow C e size v n xs := by
 obtain ⟨h2, h3⟩ := h
 refine ⟨h2, ?_⟩
 rcases h3 with h3 | ⟨g, cap, cur, rfl, hb', hg, r⟩
 ·exact .inl h3
 ·exact .inr ⟨g, cap, cur, rfl, Nat.le_trans hC hb', hg, r⟩
theorem OutTab.weaken {E : Elem} {w : World} {P : Nat -> Prop} {lo lo' : Nat} {v : Value} {t : List (List Rat)} (h : OutTab E w P lo v t) (hl : lo' <= lo) : OutTab E w P lo' v t := by
 obtain ⟨es, h1, h2, h3, h4⟩ := h
 exact ⟨es, h1, ownsRow_weaken h2 hl, h3, h4⟩
theorem OutTab.lt {E : Elem} {w : World} {P : Nat -> Prop} {lo : Nat} {v : Value} {t : List (List Rat)} (h : OutTab E w P lo v t) : ∀ k, v.ownBlock = some k -> lo <= k /\ k < w.heap.size := by
 obtain ⟨es, h1, h2, -⟩ := h; exact World.ownsRow.lt h2
theorem OutTab.snoc {E : Elem} {w W : World} {P : Nat -> Prop} {lo : Nat} {v v' : Value} {t : List (List Rat)} {row : List Rat} {A : Option Addr} {n c : Nat}
 (es : List Value) (h1 : es.length = t.length) (h3 : ∀ e ∈ es, ∃ A n c, e = .slice A n c)
 (h4 : On w (fun b => P b /\ some b ≠ v.ownBlock) (fun W => ∀ (i : Nat) (e : Value) (row : List Rat), es[i]? = some e -> t[i]? = some row -> Rats E W e row))
 (hown : W.ownsRow lo 22 1 v' (t.length + 1) (es ++ [.slice A n c])) (hg : w.grownBy W v.ownBlock) (hblk : v'.ownBlock = v.ownBlock ∨ v'.ownBlock = some w.heap.size)
 (hx : On w (fun b => P b /\ some b ≠ v.ownBlock) (fun W => Rats E W (.slice A n c) row)) : OutTab E W P lo v' (t ++ [row]) := by
 refine ⟨es ++ [.slice A n c], by simp [h1], by rw [List.length_append]; exact hown, ?_, ?_⟩
 ·intro e he
  rcases List.mem_append.1 he with he | he
  ·exact h3 e he
  ·simp at he; subst he; exact ⟨_, _, _, rfl⟩
 ·have h6 : On W (fun b => P b /\ some b ≠ v'.ownBlock) _ := (by
   obtain ⟨F, f1, f2⟩ := h4.and hx
   refine ⟨F, fun b hb => ⟨⟨(f1 b hb).1.1, ?_⟩, Nat.lt_of_lt_of_le (f1 b hb).2 hg.size⟩, fun W' hW' => f2 W' fun b hb => (hW' b hb).trans (hg.block b (f1 b hb).2 (f1 b hb).1.2)⟩
   rcases hblk with e | e
   ·rw [e]; exact (f1 b hb).1.2
   ·rw [e]; intro e2; injection e2 with e2; have := (f1 b hb).2; omega)
  refine h6.map fun W' ⟨k1, k2⟩ i e q' hi hq => ?_
  by_cases hlt : i < es.length
  ·rw [List.getElem?_append_left hlt] at hi
   rw [List.getElem?_append_left (by omega)] at hq
   exact k1 i e q' hi hq
  ·by_cases he : i = es.length
   ·subst he
    rw [List.getElem?_append_right (Nat.le_refl _), Nat.sub_self] at hi
    rw [h1, List.getElem?_append_right (Nat.le_refl _), Nat.sub_self] at hq
    simp at hi hq
    subst hi hq
    exact k2
   ·rw [List.getElem?_eq_none (by simp; omega)] at hi; cases hi
theorem OutTab.tab {E : Elem} {w : World} {P : Nat -> Prop} {lo : Nat} {v : Value} {t : List (List Rat)} (h : OutTab E w P lo v t) : On w (fun b => P b ∨ lo <= b) (fun W => Tab E W v t) := by
 obtain ⟨es, h1, ⟨h2, h2'⟩, h3, h4⟩ := h
 rcases h2' with ⟨rfl, h0⟩ | ⟨g, cap, cur, rfl, hb, hg, hn, hm, hs, ht⟩
 ·have : t = [] := List.eq_nil_of_length_eq_zero h0
  subst this
  exact On.pure fun W => ⟨none, 0, rfl, by simp, by simp, fun i q hi => by simp at hi⟩
 ·have hrow : Row w g 22 cur.toList := by unfold Row; simpa using hg
  have h5 : On w (fun b => P b ∨ lo <= b) (fun W => Row W g 22 cur.toList) := On.of_row hrow (.inr hb) fun W hW => hW
  refine (h5.and (h4.mono fun b hb _ => .inl hb.1)).map fun W ⟨hr, he⟩ => ?_
  refine ⟨some ⟨g, 0, none⟩, cap, rfl, hn, hm, fun i row hi => ?_⟩
  have hil : i < es.length := by rw [h1]; exact (List.getElem?_eq_some_iff.1 hi).1
  obtain ⟨e, hee⟩ : ∃ e, es[i]? = some e := ⟨es[i], List.getElem?_eq_getElem hil⟩
  obtain ⟨A1, n1, c1, rfl⟩ := h3 e (List.mem_of_getElem? hee)
  refine ⟨g, 0, A1, n1, c1, rfl, ?_, he i _ row hee hi⟩
  rw [Nat.zero_add]
  refine hr.cell ?_
  rw [<- ht, List.getElem?_take] at hee
  split at hee
  ·exact hee
  ·cases hee
theorem info_row : (Tryz.prog.info? 22).map (fun i => (i.zero, i.size, i.bytes)) = some (some (.slice none 0 0), 1, 24) := by kernel_rfl
section
variable {w : World} {o : Oper} {a : Act} {K : Act -> World -> Prop} {Q : Exit -> Act -> World -> Prop}
end
end Go.Proofs.YtfokplidiboabaaGreat
namespace Go.Proofs.YtfokplidiboabaaGreat
open Go.RowKit Go.Shelf
attribute [local go_sem ↓] Go.wp_at_zero Go.wp_at_succ
def FirstIdx (p : List Rat -> Bool) (t : List (List Rat)) (z : Int) : Prop := (z = -1 /\ ∀ row ∈ t, p row = false) ∨ ∃ (i : Nat) (row : List Rat), z = i /\ t[i]? = some row /\ p row = true /\ ∀ j r, j < i -> t[j]? = some r -> p r = false
def RetZ (w : World) (P : Int -> Prop) (e : Ending) (w' : World) : Prop := ∃ z : Int, e = .returned (.int .i64 z) /\ P z /\ Later w w'
set_option maxHeartbeats 2000000 in
theorem idxf1_calls (w : World) (v : Value) (t : List (List Rat)) (E : Elem) (hE : ∀ w w' v q, E w v q -> Later w w' -> E w' v q) (h : Tab E w v t) (hl : t.length <= 1000000000) (f : FuncId) (hf : Enters f) (G : Nat) (p : List Rat -> Bool)
 (hp : ∀ W rv row, Later w W -> Rats E W rv row -> row ∈ t -> Calls Tryz.prog f #[rv, .pointer (some ⟨G, 0, none⟩)] W (RetV W (.bool (p row)))) :
 Calls Tryz.prog 214 #[v, .func (.func f) #[] #[.pointer (some ⟨G, 0, none⟩)]] w (RetZ w (FirstIdx p t)) := by
 have H := hide h; have HP := hide hp
 have hen := hf.out
 obtain ⟨A0, nt, ct, rfl, hnt, -, -, -⟩ := h.form
 have HNT := hide hnt
 have hn9 : nt <= 1000000000 := by omega
 clear h hp hnt hl
 go_enter Tryz.func214, Tryz.ntmps214
 go_wp2_with fail
 go_loopw [8] (fun i wr => ∃ j : Nat, j <= nt /\ i = .int .i64 (j : Int) /\ Hid (∀ i r, i < j -> t[i]? = some r -> p r = false) /\ Later w wr) (fun i _ => (nt - intOf i).toNat)
 case atStart => exact ⟨0, by omega, rfl, hide fun i r hi => by omega, Later.refl w⟩
 case round =>
  obtain ⟨j, hj, rfl, hpre, hL⟩ := hrel
  by_cases hjn : j < nt
  ·obtain ⟨row, hrow⟩ : ∃ row, t[j]? = some row := ⟨t[j]'(by have := HNT.out; omega), List.getElem?_eq_getElem _⟩
   obtain ⟨b1, off1, A1, n1, c1, rfl, x1, hr⟩ := (H.out.later hE hL).at_ hrow
   have HR := hide hr; have HROW := hide hrow
   obtain ⟨u, hu⟩ : ∃ u, p row = u := ⟨_, rfl⟩
   have HU := hide hu
   have hj0 : (0 : Int) <= (j : Int) := by omega
   have hj1 : (j : Int) < nt := by omega
   clear hr hrow hu
   go_wp2_with fail
   refine (HP.out _ _ row hL HR.out (List.mem_of_getElem? HROW.out)).mono ?_
   rintro e w8 ⟨rfl, b8⟩
   rw [HU.out]
   have hL8 := hL.trans b8
   cases u
   case false =>
    have HN : Hid (∀ i r, i < j + 1 -> t[i]? = some r -> p r = false) := hide fun i r hi hr => by
     by_cases hij : i < j
     ·exact hpre.out i r hij hr
     ·obtain rfl : i = j := by omega
      rw [HROW.out] at hr; injection hr with hr; rw [<- hr, HU.out]
    go_wp2_with fail
    exact ⟨⟨j+1, by omega, by go_num, HN, hL8⟩, by simp [intOf]; omega⟩
   case true =>
    have HF : Hid (FirstIdx p t j) := hide (.inr ⟨j, row, rfl, HROW.out, HU.out, hpre.out⟩)
    go_wp2_with fail
    go_ret
    exact ⟨_, rfl, HF.out, hL8⟩
  ·obtain rfl : j = nt := by omega
   have HF : Hid (FirstIdx p t (-1)) := hide (.inl ⟨rfl, fun row hr => by
    obtain ⟨i, hi⟩ := List.getElem?_of_mem hr
    exact hpre.out i row (by rw [HNT.out]; exact (List.getElem?_eq_some_iff.1 hi).1) hi⟩)
   go_wp2_with fail
   go_ret
   exact ⟨_, rfl, HF.out, hL⟩
theorem firstIdx_any {p : List Rat -> Bool} {t : List (List Rat)} {z : Int} (h : FirstIdx p t z) : decide (0 <= z) = t.any p := by
 rcases h with ⟨rfl, h⟩ | ⟨i, row, rfl, h1, h2, h3⟩
 ·have : t.any p = false := by
   rw [List.any_eq_false]; intro x hx; rw [h x hx]; simp
  rw [this]; simp
 ·have : t.any p = true := by
   rw [List.any_eq_true]; exact ⟨row, List.mem_of_getElem? h1, h2⟩
  rw [this]; simp
set_option maxHeartbeats 1000000 in
theorem contf1_calls (w : World) (v : Value) (t : List (List Rat)) (E : Elem) (hE : ∀ w w' v q, E w v q -> Later w w' -> E w' v q) (h : Tab E w v t) (hl : t.length <= 1000000000) (f : FuncId) (hf : Enters f) (G : Nat) (p : List Rat -> Bool)
 (hp : ∀ W rv row, Later w W -> Rats E W rv row -> row ∈ t -> Calls Tryz.prog f #[rv, .pointer (some ⟨G, 0, none⟩)] W (RetV W (.bool (p row)))) (u : Bool) (hu : t.any p = u) :
 Calls Tryz.prog 151 #[v, .func (.func f) #[] #[.pointer (some ⟨G, 0, none⟩)]] w (RetV w (.bool u)) := by
 have H := hide h; have HP := hide hp; have HU := hide hu
 obtain ⟨A0, nt, ct, rfl, hnt, -, -, -⟩ := h.form
 clear h hp hnt hu
 go_enter Tryz.func151, Tryz.ntmps151
 go_wp2_with fail
 refine (idxf1_calls _ _ t E hE H.out hl f hf G p HP.out).mono ?_
 rintro e w1 ⟨z, rfl, hz, b1⟩
 have hd := firstIdx_any hz
 rw [HU.out] at hd
 have HD := hide hd
 clear hz hd
 go_wp2_with fail
 go_ret
 exact ⟨by simp [HD.out], b1⟩
set_option maxHeartbeats 1000000 in
theorem rect1_calls (w : World) (rv : Value) (row : List Rat) (E : Elem) (h : Rats E w rv row) (G : Nat) (n : Nat) (hr : Row w G 3 [.int .i64 (n : Int)]) (hl : row.length <= 1000000000) (u : Bool) (hu : decide (row.length ≠ n) = u) :
 Calls Tryz.prog 152 #[rv, .pointer (some ⟨G, 0, none⟩)] w (RetV w (.bool u)) := by
 obtain ⟨A0, nt, ct, rfl, hnt, -, -, -⟩ := h.form
 have c0 := hr.cell (i := 0) rfl
 have hd : ((nt : Int) != n) = u := by
  rw [<- hu, <- hnt, Bool.eq_iff_iff]; simp
  omega
 have HD := hide hd
 clear h hr hu hd hnt
 go_enter Tryz.func152, Tryz.ntmps152
 go_wp2_with fail
 go_ret
 exact ⟨by simp [HD.out], Later.refl w⟩
def rectB (t : List (List Rat)) (n : Nat) : Bool := t.all fun r => decide (r.length = n)
theorem rectB_any (t : List (List Rat)) (n : Nat) : t.any (fun r => decide (r.length ≠ n)) = !rectB t n := by
 induction t with
 | nil => rfl
 | cons r t ih => rw [List.any_cons, ih]; unfold rectB; rw [List.all_cons]; by_cases h : r.length = n <;> simp [h]
set_option maxHeartbeats 1000000 in
theorem rect_calls (w : World) (v : Value) (t : List (List Rat)) (E : Elem) (hE : ∀ w w' v q, E w v q -> Later w w' -> E w' v q) (h : Tab E w v t) (n : Nat) (hl : t.length <= 1000000000) (hl2 : ∀ row ∈ t, row.length <= 1000000000) (u : Bool) (hu : rectB t n = u) :
 Calls Tryz.prog 82 #[v, .int .i64 (n : Int)] w (RetV w (.bool u)) := by
 have H := hide h
 have hu2 : t.any (fun r => decide (r.length ≠ n)) = !u := by rw [rectB_any, hu]
 have HU := hide hu2; have HL2 := hide hl2
 obtain ⟨A0, nt, ct, rfl, hnt, -, -, -⟩ := h.form
 clear h hnt hu hu2 hl2
 go_enter Tryz.func82, Tryz.ntmps82
 go_wp2_with fail
 have hL : Later w (w.alloc (Obj.cells #[Value.int .i64 (n : Int)] 3)) := (Later.refl w).alloc _
 have hrow := Row.new w 3 [.int .i64 (n : Int)]
 have HL := hide hL; have HR := hide hrow
 clear hL hrow
 refine (contf1_calls _ _ t E hE (H.out.later hE HL.out) hl _ ⟨fun _ _ => by kernel_rfl⟩ w.heap.size (fun r => decide (r.length ≠ n)) (fun W rv row hW hr hm => rect1_calls W rv row E hr w.heap.size n (HR.out.later hW) (HL2.out row hm) _ rfl) (!u) HU.out).mono ?_
 rintro e w1 ⟨rfl, b1⟩
 go_wp2_with fail
 go_ret
 exact ⟨by simp, HL.out.trans b1⟩
end Go.Proofs.YtfokplidiboabaaGreat
namespace Go.Proofs.YtfokplidiboabaaGreat
open Go.RowKit Go.Shelf
attribute [local go_sem ↓] Go.wp_at_zero Go.wp_at_succ
theorem On.list_ {α : Type} {w : World} {P : Nat -> Prop} {T : Nat -> α -> World -> Prop} (n : Nat) (f : Nat -> Option α) (h : ∀ i x, i < n -> f i = some x -> On w P (T i x)) : On w P (fun W => ∀ i x, i < n -> f i = some x -> T i x W) := by
 induction n with
 | zero => exact On.pure fun W i x hi => by omega
 | succ n ih =>
   have h1 := ih fun i x hi hx => h i x (by omega) hx
   cases hf : f n with
   | none =>
     refine h1.map fun W hW i x hi hx => ?_
     by_cases e : i = n
     ·subst e; rw [hf] at hx; cases hx
     ·exact hW i x (by omega) hx
   | some y =>
     refine (h1.and (h n y (by omega) hf)).map fun W hWy i x hi hx => ?_
     by_cases e : i = n
     ·subst e; rw [hf] at hx; injection hx with hx; rw [<- hx]; exact hWy.2
     ·exact hWy.1 i x (by omega) hx
end Go.Proofs.YtfokplidiboabaaGreat
namespace Go.Proofs.YtfokplidiboabaaGreat
open Go.RowKit Go.Shelf
attribute [local go_sem ↓] Go.wp_at_zero Go.wp_at_succ
theorem Tab.sized {k : Nat} {w : World} {v : Value} {t : List (List Rat)} (h : Tab (ERaw k) w v t) : ∀ row ∈ t, ∀ q ∈ row, Sized q (k+1) := by
 intro row hr q hq
 obtain ⟨i, hi⟩ := List.getElem?_of_mem hr
 obtain ⟨A, c, e, -, -, h3⟩ := h
 obtain ⟨b, off, A', n', c', -, -, x⟩ := h3 i row hi
 exact Rats.sized x q hq
end Go.Proofs.YtfokplidiboabaaGreat
namespace Go.Proofs.YtfokplidiboabaaGreat
def piv (M : Nat -> Nat -> Rat) (r c : Nat) : Nat -> Nat -> Rat := fun i k => if i = r then M r k / M r c else M i k - M i c * (M r k / M r c)
structure UnitF (n c : Nat) (M : Nat -> Nat -> Rat) (u : Nat -> Nat) : Prop where
 lt : ∀ k, k < c -> u k < n
 inj : ∀ k j, k < c -> j < c -> u k = u j -> k = j
 ent : ∀ k i, k < c -> i < n -> M i k = if i = u k then 1 else 0
theorem UnitF.zero (n : Nat) (M : Nat -> Nat -> Rat) (u : Nat -> Nat) : UnitF n 0 M u := ⟨fun k h => by omega, fun k j h => by omega, fun k i h => by omega⟩
theorem UnitF.step {n c : Nat} {M : Nat -> Nat -> Rat} {u v : Nat -> Nat} {r : Nat} (h : UnitF n c M u) (hr : r < n) (hu : ∀ k, k < c -> u k ≠ r) (hp : M r c ≠ 0) (hv : ∀ k, k < c -> v k = u k) (hc : v c = r) : UnitF n (c+1) (piv M r c) v := by
 refine ⟨fun k hk => ?_, fun k j hk hj e => ?_, fun k i hk hi => ?_⟩
 ·by_cases e : k = c
  ·subst e; omega
  ·rw [hv k (by omega)]; exact h.lt k (by omega)
 ·by_cases e1 : k = c
  ·by_cases e2 : j = c
   ·omega
   ·subst e1; rw [hc, hv j (by omega)] at e; exact absurd e.symm (hu j (by omega))
  ·by_cases e2 : j = c
   ·subst e2; rw [hc, hv k (by omega)] at e; exact absurd e (hu k (by omega))
   ·rw [hv k (by omega), hv j (by omega)] at e; exact h.inj k j (by omega) (by omega) e
 ·by_cases e : k = c
  ·subst e
   rw [hc]
   by_cases e2 : i = r
   ·subst e2; simp only [piv, if_true]; grind
   ·simp only [piv, if_neg e2]; grind
  ·have h1 := h.ent k i (by omega) hi
   have h2 := h.ent k r (by omega) hr
   rw [if_neg (fun e => hu k (by omega) e.symm)] at h2
   rw [hv k (by omega)]
   by_cases e2 : i = r
   ·subst e2; rw [if_neg (fun e => hu k (by omega) e.symm)]; simp only [piv, if_true]; rw [h2]; grind
   ·simp only [piv, if_neg e2]; rw [h1, h2]; grind
end Go.Proofs.YtfokplidiboabaaGreat
namespace Go.Proofs.YtfokplidiboabaaGreat
def ent (t : List (List Rat)) (i k : Nat) : Rat := (t.getD i []).getD k 0
end Go.Proofs.YtfokplidiboabaaGreat
namespace Go.Proofs.YtfokplidiboabaaGreat
open Go.RowKit Go.Shelf
attribute [local go_sem ↓] Go.wp_at_zero Go.wp_at_succ
theorem OutTab.map {E E' : Elem} {w : World} {P : Nat -> Prop} {lo : Nat} {v : Value} {t : List (List Rat)} (h : OutTab E w P lo v t) (hE : ∀ W v q, (∃ row ∈ t, q ∈ row) -> E W v q -> E' W v q) : OutTab E' w P lo v t := by
 obtain ⟨es, h1, h2, h3, h4⟩ := h
 exact ⟨es, h1, h2, h3, h4.map fun W hW i e row hi hr => (hW i e row hi hr).map fun v q hq he => hE W v q ⟨row, List.mem_of_getElem? hr, hq⟩ he⟩
theorem OutTab.open_ {E : Elem} {w : World} {P : Nat -> Prop} {lo : Nat} {v : Value} {t : List (List Rat)} (h : OutTab E w P lo v t) (hi : 0 < t.length) :
 ∃ g cap cs, v = .slice (some ⟨g, 0, none⟩) t.length cap /\ lo <= g /\ t.length <= cap /\ cap <= maxLen /\ Row w g 22 cs /\ ∀ j, j < t.length -> ∃ A n c, cs[j]? = some (.slice A n c) := by
 obtain ⟨es, h1, ⟨h2, h2'⟩, h3, h4⟩ := h
 rcases h2' with ⟨rfl, h0⟩ | ⟨g, cap, cur, rfl, hb, hg, hn, hm, hs, ht⟩
 ·omega
 ·refine ⟨g, cap, cur.toList, rfl, hb, hn, hm, by unfold Row; simpa using hg, fun j hj => ?_⟩
  obtain ⟨e, hee⟩ : ∃ e, es[j]? = some e := ⟨es[j]'(by omega), List.getElem?_eq_getElem _⟩
  obtain ⟨A1, n1, c1, rfl⟩ := h3 e (List.mem_of_getElem? hee)
  refine ⟨A1, n1, c1, ?_⟩
  rw [<- ht, List.getElem?_take] at hee
  split at hee
  ·exact hee
  ·cases hee
theorem Tab.drop {E : Elem} {w : World} {b off n cap c : Nat} {t : List (List Rat)} (h : Tab E w (.slice (some ⟨b, off, none⟩) n cap) t) (hc : c <= n) : Tab E w (.slice (some ⟨b, off + c, none⟩) (n - c) (cap - c)) (t.drop c) := by
 obtain ⟨A, cap', e, h1, h2, h3⟩ := h
 injection e with e1 e2 e3
 subst e1 e2 e3
 refine ⟨_, cap - c, by rw [List.length_drop], by rw [List.length_drop]; omega, by omega, fun i row hi => ?_⟩
 rw [List.getElem?_drop] at hi
 obtain ⟨b', off', A', n', c', ha, x1, x2⟩ := h3 (c + i) row hi
 injection ha with ha; injection ha with ha1 ha2
 subst ha1 ha2
 exact ⟨b, off + c, A', n', c', rfl, by rw [Nat.add_assoc]; exact x1, x2⟩
end Go.Proofs.YtfokplidiboabaaGreat
namespace Go.Proofs.YtfokplidiboabaaGreat
open Go.RowKit Go.Shelf
attribute [local go_sem ↓] Go.wp_at_zero Go.wp_at_succ
theorem OutRats.weaken {E : Elem} {w : World} {P : Nat -> Prop} {lo lo' : Nat} {v : Value} {l : List Rat} (h : OutRats E w P lo v l) (hl : lo' <= lo) : OutRats E w P lo' v l := by
 obtain ⟨es, h1, h2, h3, h4⟩ := h
 exact ⟨es, h1, ownsRow_weaken h2 hl, h3, h4⟩
end Go.Proofs.YtfokplidiboabaaGreat
