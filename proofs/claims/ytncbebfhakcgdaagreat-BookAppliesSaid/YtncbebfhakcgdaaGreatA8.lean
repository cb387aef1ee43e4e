/- The reference: Same (whole numbers, fractions), Zero, May. -/
import Derived.Test.YtncbebfhakcgdaaGreatA7
import Derived.Test.YtncbebfhakcgdaaGreatA4
import Derived.Test.YtncbebfhakcgdaaGreatA5
set_option linter.unusedVariables false
set_option linter.unusedSimpArgs false
set_option maxRecDepth 100000
namespace Go.Proofs.YtncbebfhakcgdaaGreat
open Go.RowKit
attribute [local go_sem ↓] Go.wp_at_zero Go.wp_at_succ
set_option maxHeartbeats 1000000 in
theorem qzero_calls (w : World) : Calls Tryz.prog 117 #[] w (Ret w fun w' v => OwnR w' w.heap.size v 0) := by
 go_enter Tryz.func117, Tryz.ntmps117
 go_wp2_with fail
 refine (zof_calls _ 1 (by omega) (by omega)).mono ?_
 rintro e w1 ⟨v1, rfl, o1, b1⟩
 obtain ⟨s1, A1, n1, c1', rfl, o1⟩ := o1.open_
 have hs1 : s1 = false := by rw [o1.sign]; rfl
 subst hs1
 have HO := hide o1; clear o1
 have hL := ((Later.refl w).alloc (Obj.cells #[.bool false, .slice none 0 0, .bool false, .slice none 0 0] 67)).trans b1
 have hrow := ((Row.new w 67 [.bool false, .slice none 0 0, .bool false, .slice none 0 0]).later b1)
 obtain ⟨c0, c1, c2, c3, f0, f1, f2, f3⟩ := row_cells4 hrow
 have HR := hide hrow
 clear hrow
 go_wp2_with fail
 refine bodyPost_ret (results_rat rfl rfl (HR.out.four _ _ _ _)) rfl ?_
 have oo := Only.four w.heap.size w1 (.bool false) (.slice none 0 0) (.bool false) (.slice A1 n1 c1')
 refine ⟨_, rfl, ⟨none, 0, 0, A1, n1, c1', rfl, ?_, ?_⟩, hL.only oo (Nat.le_refl _)⟩
 ·rw [show (0 : Rat).num.natAbs = 0 from rfl, limbs_zero]; exact own_nil _ _ _
 ·exact ((HO.out.only oo (by simp)).own).weaken (by simp)
set_option maxHeartbeats 1000000 in
theorem qmay_calls (w : World) (a : Bool) (s : Value) (A : Option Addr) (n c : Nat) (b : Bool) (y : Int) (k : Nat) (h : RawI w (.agg #[.bool b, .slice A n c]) y k) (hs : ∃ A' n' c', s = .slice A' n' c') (hk : k <= 200000000) (t : Bool) (ht : decide (0 < y) = t) :
 Calls Tryz.prog 115 #[.agg #[.bool a, s, .bool b, .slice A n c]] w (RetV w (.bool t)) := by
 obtain ⟨A', n', c', rfl⟩ := hs
 obtain ⟨neg, A0, n0, c0, l, e, hu, hz, hl⟩ := h
 injection e with e; injection e with e; injection e with e1 e; injection e with e2 e
 injection e1 with e1; injection e2 with e2 e3 e4
 subst e1 e2 e3 e4
 have HU := hide hu; have HZ := hide hz; have HT := hide ht
 clear hu hz ht e
 go_enter Tryz.func115, Tryz.ntmps115
 go_wp2_with fail
 have hb0 : Later w (w.alloc (Obj.cells #[Value.bool a, Value.slice A' n' c', Value.bool b, Value.slice A n c] 67)) := (Later.refl w).alloc _
 have hrow := (Row.new w 67 [.bool a, .slice A' n' c', .bool b, .slice A n c])
 have R1 := hide hrow; have B0 := hide hb0
 clear hrow hb0
 refine (rtrim_calls _ _ l (HU.out.later B0.out) (by omega)).mono ?_
 rintro e w1 ⟨v1, rfl, o1, b1⟩
 obtain ⟨A1, n1, c1, rfl, o1, hn1⟩ := o1.open_
 have HP := hide (nlen_pos hn1)
 obtain ⟨d1, d2, d3, d4, d5, d6, d7, d8⟩ := row_cells4 (R1.out.later b1)
 clear o1 hn1
 by_cases h0 : 0 < n1
 ·have hv : 0 < val l := by have := HP.out; rw [show decide (0 < n1) = true by simpa using h0] at this; simpa using this.symm
  have hb : t = !b := by
   rw [<- HT.out, HZ.out]; unfold sgn; cases b <;> simp <;> omega
  have HB := hide hb
  clear hb
  go_wp2_with fail
  go_ret
  exact ⟨by rw [HB.out]; rfl, B0.out.trans b1⟩
 ·have hv : val l = 0 := by
   have := HP.out; rw [show decide (0 < n1) = false by simpa using h0] at this
   have : ¬ 0 < val l := by simpa using this.symm
   omega
  have hb : t = false := by
   rw [<- HT.out, HZ.out, hv]; unfold sgn; cases b <;> simp
  have HB := hide hb
  clear hb
  go_wp2_with fail
  go_ret
  exact ⟨by rw [HB.out]; rfl, B0.out.trans b1⟩
end Go.Proofs.YtncbebfhakcgdaaGreat
namespace Go.Proofs.YtncbebfhakcgdaaGreat
open Go.RowKit
structure Onlys (L : List Nat) (w w' : World) : Prop where
 os : w'.os = w.os
 tape : w'.tape = w.tape
 output : w'.output = w.output
 size : w'.heap.size = w.heap.size
 block : ∀ b, b ∉ L -> w'.heap[b]? = w.heap[b]?
theorem Onlys.refl (L : List Nat) (w : World) : Onlys L w w := ⟨rfl, rfl, rfl, rfl, fun _ _ => rfl⟩
theorem Onlys.of {L : List Nat} {g : Nat} {w w' : World} (h : Only g w w') (hg : g ∈ L) : Onlys L w w' :=
 ⟨h.os, h.tape, h.output, h.size, fun b hb => h.block b (fun e => hb (e ▸ hg))⟩
theorem Onlys.trans {L : List Nat} {a b c : World} (h : Onlys L a b) (k : Onlys L b c) : Onlys L a c :=
 ⟨k.os.trans h.os, k.tape.trans h.tape, k.output.trans h.output, k.size.trans h.size, fun b hb => (k.block b hb).trans (h.block b hb)⟩
theorem Onlys.then_ {L : List Nat} {g : Nat} {a b c : World} (h : Onlys L a b) (k : Only g b c) (hg : g ∈ L) : Onlys L a c := h.trans (Onlys.of k hg)
theorem Later.onlys {a w w' : World} {L : List Nat} (h : Later a w) (o : Onlys L w w') (hg : ∀ g ∈ L, a.heap.size <= g) : Later a w' :=
 ⟨o.os.trans h.os, o.tape.trans h.tape, o.output.trans h.output, by rw [o.size]; exact h.size, fun b hb => (o.block b (fun hm => by have := hg b hm; omega)).trans (h.block b hb)⟩
theorem Row.onlys {w w' : World} {L : List Nat} {h : Nat} {t : TypeId} {cs : List Value} (r : Row w h t cs) (o : Onlys L w w') (hg : h ∉ L) : Row w' h t cs := (o.block h hg).trans r
theorem ownsRow_onlys {w w' : World} {B : Nat} {L : List Nat} {e : TypeId} {size n : Nat} {v : Value} {xs : List Value} (h : w.ownsRow B e size v n xs) (o : Onlys L w w') (hg : ∀ g ∈ L, g < B) : w'.ownsRow B e size v n xs := by
 obtain ⟨h2, h3⟩ := h
 refine ⟨h2, ?_⟩
 rcases h3 with h3 | ⟨k, cap, cur, rfl, hb, hk, r⟩
 ·exact .inl h3
 ·exact .inr ⟨k, cap, cur, rfl, hb, (o.block k (fun hm => by have := hg k hm; omega)).trans hk, r⟩
theorem Own32.onlys {T : TypeId} {w w' : World} {B : Nat} {L : List Nat} {v : Value} {l : List Nat} (h : Own32 T w B v l) (o : Onlys L w w') (hg : ∀ g ∈ L, g < B) : Own32 T w' B v l := ⟨h.1, ownsRow_onlys h.2 o hg⟩
theorem OwnI.onlys {w w' : World} {B : Nat} {L : List Nat} {v : Value} {z : Int} (h : OwnI w B v z) (o : Onlys L w w') (hg : ∀ g ∈ L, g < B) : OwnI w' B v z := by
 obtain ⟨A, n, c, e, h⟩ := h; exact ⟨A, n, c, e, h.onlys o hg⟩
theorem OwnR.onlys {w w' : World} {B : Nat} {L : List Nat} {v : Value} {q : Rat} (h : OwnR w B v q) (o : Onlys L w w') (hg : ∀ g ∈ L, g < B) : OwnR w' B v q := by
 obtain ⟨A, n, c, A', n', c', e, h1, h2⟩ := h; exact ⟨A, n, c, A', n', c', e, h1.onlys o hg, h2.onlys o hg⟩
theorem results_int3 {fn : Func} {t u v : Tmp} {tmps : Array Value} {W : World} {a b c : Nat} {x y z x' y' z' : Value} (h : fn.results = #[.cell t 65, .cell u 65, .cell v 65])
 (ht : tmps[t]?.getD undef = .pointer (some ⟨a, 0, none⟩)) (hu : tmps[u]?.getD undef = .pointer (some ⟨b, 0, none⟩)) (hv : tmps[v]?.getD undef = .pointer (some ⟨c, 0, none⟩))
 (ra : Row W a 65 [x, x']) (rb : Row W b 65 [y, y']) (rc : Row W c 65 [z, z']) :
 (results fn tmps).run Tryz.prog W = .ok (.tuple #[.agg #[x, x'], .agg #[y, y'], .agg #[z, z']]) W := by
 have a0 := ra.cell (i := 0) rfl; have a1 := ra.cell (i := 1) rfl
 have b0 := rb.cell (i := 0) rfl; have b1 := rb.cell (i := 1) rfl
 have c0 := rc.cell (i := 0) rfl; have c1 := rc.cell (i := 1) rfl
 simp [results, h, ht, hu, hv, go_sem, a0, a1, b0, b1, c0, c1]
theorem boxes5 (w : World) (x y z u v : List Value) (t1 t2 t3 t4 t5 : TypeId) {W : World} (hW : W = ((((w.alloc (Obj.cells x.toArray t1)).alloc (Obj.cells y.toArray t2)).alloc (Obj.cells z.toArray t3)).alloc (Obj.cells u.toArray t4)).alloc (Obj.cells v.toArray t5)) :
 Later w W /\ Row W w.heap.size t1 x /\ Row W (w.heap.size + 1) t2 y /\ Row W (w.heap.size + 2) t3 z /\ Row W (w.heap.size + 3) t4 u /\ Row W (w.heap.size + 4) t5 v /\ W.heap.size = w.heap.size + 5 := by
 obtain ⟨V, hV⟩ : ∃ V, V = (((w.alloc (Obj.cells x.toArray t1)).alloc (Obj.cells y.toArray t2)).alloc (Obj.cells z.toArray t3)).alloc (Obj.cells u.toArray t4) := ⟨_, rfl⟩
 obtain ⟨a, b, c, d, f, e⟩ := boxes4 w x y z u t1 t2 t3 t4 hV
 rw [<- hV] at hW
 subst hW
 have := Row.new V t5 v
 rw [e] at this
 exact ⟨a.alloc _, b.alloc _, c.alloc _, d.alloc _, f.alloc _, this, by simp [e]⟩
end Go.Proofs.YtncbebfhakcgdaaGreat
namespace Go.Proofs.YtncbebfhakcgdaaGreat
open Go.RowKit Go.Shelf
attribute [local go_sem ↓] Go.wp_at_zero Go.wp_at_succ
set_option maxHeartbeats 4000000 in
theorem qplain_calls (w : World) (v : Value) (q : Rat) (k : Nat) (h : RawR w v q k) (hk : k <= 180000000) :
 Calls Tryz.prog 119 #[v] w (Ret w fun w' v => OwnR w' w.heap.size v q) := by
 obtain ⟨sa, A1, n1, c1, sa', A1', n1', c1', x, y, rfl, hx, hy, hq⟩ := h
 have HX := hide hx; have HY := hide hy; have HQ := hide hq
 obtain ⟨W0, hW0⟩ : ∃ W0, W0 = ((w.alloc (Obj.cells #[Value.bool sa, Value.slice A1 n1 c1, Value.bool sa', Value.slice A1' n1' c1'] 67)).alloc (Obj.cells #[Value.bool false, Value.slice none 0 0, Value.bool false, Value.slice none 0 0] 67)) := ⟨_, rfl⟩
 obtain ⟨hb0, r1, r2, hsz⟩ := boxes2 w [.bool sa, .slice A1 n1 c1, .bool sa', .slice A1' n1' c1'] [.bool false, .slice none 0 0, .bool false, .slice none 0 0] 67 67 hW0
 have R1 := hide r1; have R2 := hide r2; have B0 := hide hb0; have HW0 := hide hW0
 clear hq r1 r2 hb0 hW0
 by_cases hpos : 0 < y
 ·have ht : decide (0 < y) = true := by simpa using hpos
  have HT := hide ht
  obtain ⟨neg, A0, n0, c0, l, e, hu, hz, hl⟩ := hx
  injection e with e; injection e with e; injection e with e1 e; injection e with e2 e
  injection e1 with e1; injection e2 with e2 e3 e4
  subst e1 e2 e3 e4
  obtain ⟨neg, A0, n0, c0, l', e, hu', hz', hl'⟩ := hy
  injection e with e; injection e with e; injection e with e1 e; injection e with e2 e
  injection e1 with e1; injection e2 with e2 e3 e4
  subst e1 e2 e3 e4
  have hxa : x.natAbs = val l := by rw [hz, natAbs_sgn]
  have hya : y.natAbs = val l' := by rw [hz', natAbs_sgn]
  obtain ⟨g, hg⟩ : ∃ g, g = Nat.gcd (val l) (val l') := ⟨_, rfl⟩
  have hq2 : q = mkRat x y.toNat := by rw [HQ.out]; unfold ratOf; rw [if_pos hpos]
  obtain ⟨z1, z2, hgp⟩ := by_law hpos hq2 (g := g) (by rw [hxa, hya]; exact hg)
  have z3 : sgn sa (val l / g) = q.num := by rw [exact_sgn hz g]; exact z1
  have z4 : val l' / g = q.den := by
   rw [show decide (y < 0) = false by simp; omega] at z2
   rw [hya] at z2
   have : ((val l' / g : Nat) : Int) = q.den := z2
   omega
  have hgl : (limbs g).length <= k := by
   refine Nat.le_trans (length_limbs_mono (b := val l') ?_) (Nat.le_trans (length_limbs_val hu'.1) hl')
   rw [hg]; exact Nat.gcd_le_right _ (by omega)
  have hql : (limbs (val l / g)).length <= k := Nat.le_trans (length_limbs_mono (Nat.div_le_self _ _)) (Nat.le_trans (length_limbs_val hu.1) hl)
  have HU := hide hu; have HU' := hide hu'; have Z3 := hide z3; have Z4 := hide z4; have HG := hide hg; have HQL := hide hql
  clear hz hz' hxa hya hq2 z1 z2 z3 z4 hu hu' ht hg hql e HQ HX
  go_enter Tryz.func119, Tryz.ntmps119
  go_wp2_with fail
  rw [<- HW0.out]
  refine (qmay_calls _ sa _ _ _ _ sa' y k (HY.out.later B0.out) ⟨_, _, _, rfl⟩ (by omega) true HT.out).mono ?_
  rintro e w1 ⟨rfl, b1⟩
  obtain ⟨d1, d2, d3, d4, d5, d6, d7, d8⟩ := row_cells4 (R1.out.later b1)
  have k1 := B0.out.trans b1
  go_wp2_with fail
  refine (rngcd_calls _ _ _ l l' (HU.out.later k1) (HU'.out.later k1) (by omega) (by omega)).mono ?_
  rintro e w2 ⟨v2, rfl, o2, b2⟩
  rw [<- HG.out] at o2
  obtain ⟨P2, q2, e2, rfl, o2, -⟩ := o2.open_
  have O2 := hide o2; clear o2
  have k2 := k1.trans b2
  clear d1 d2 d3 d4 d5 d6 d7 d8; obtain ⟨d1, d2, d3, d4, d5, d6, d7, d8⟩ := row_cells4 (R1.out.later (b1.trans b2))
  go_wp2_with fail
  refine (rndiv_calls _ _ _ l (limbs g) (HU.out.later k2) O2.out.reads (by omega) (by omega) (by rw [val_limbs]; exact hgp)).mono ?_
  rintro e w3 ⟨v3, r3, ok3, rfl, ⟨o3, -, rfl⟩, b3⟩
  rw [val_limbs] at o3
  obtain ⟨P3, q3, e3, rfl, o3, -⟩ := o3.open_
  have O3 := hide o3; clear o3
  have k3 := k2.trans b3
  clear d1 d2 d3 d4 d5 d6 d7 d8; obtain ⟨d1, d2, d3, d4, d5, d6, d7, d8⟩ := row_cells4 (R1.out.later ((b1.trans b2).trans b3))
  go_wp2_with fail
  refine (rndiv_calls _ _ _ l' (limbs g) (HU'.out.later k3) (O2.out.reads.later b3) (by omega) (by omega) (by rw [val_limbs]; exact hgp)).mono ?_
  rintro e w4 ⟨v4, r4, ok4, rfl, ⟨o4, -, rfl⟩, b4⟩
  rw [val_limbs, Z4.out] at o4
  obtain ⟨P4, q4, e4, rfl, o4, -⟩ := o4.open_
  have O4 := hide o4; clear o4
  have k4 := k3.trans b4
  clear d1 d2 d3 d4 d5 d6 d7 d8; obtain ⟨d1, d2, d3, d4, d5, d6, d7, d8⟩ := row_cells4 (R1.out.later (((b1.trans b2).trans b3).trans b4))
  go_wp2_with fail
  refine (zplain_calls _ _ (sgn sa (val l / g)) k (rawI_mk (O3.out.later b4) HQL.out) (by omega)).mono ?_
  rintro e w5 ⟨v5, rfl, o5, b5⟩
  rw [Z3.out] at o5
  obtain ⟨s5, P5, q5, e5, rfl, o5⟩ := o5.open_; have O5 := hide o5; clear o5
  have k5 := k4.trans b5
  have HR := hide (R2.out.later ((((b1.trans b2).trans b3).trans b4).trans b5))
  have hs1 := b1.size; have hs2 := b2.size; have hs3 := b3.size; have hs4 := b4.size
  clear d1 d2 d3 d4 d5 d6 d7 d8; obtain ⟨d1, d2, d3, d4, d5, d6, d7, d8⟩ := row_cells4 (HR.out)
  go_wp2_with fail
  refine bodyPost_ret (results_rat rfl rfl (HR.out.four _ _ _ _)) rfl ?_
  have oo := Only.four (w.heap.size + 1) w5 (.bool s5) (.slice P5 q5 e5) (.bool false) (.slice P4 q4 e4)
  refine ⟨_, rfl, OwnR.weaken (OwnR.mk_ (B := w.heap.size + 2) ?_ ?_) (by omega), k5.only oo (by omega)⟩
  ·exact (O5.out.weaken (by omega)).only oo (by omega)
  ·exact ((O4.out.later b5).weaken (by omega)).only oo (by omega)
 ·have hq : q = 0 := by rw [HQ.out, ratOf_not hpos]
  subst hq
  have ht : decide (0 < y) = false := by simpa using hpos
  have HT := hide ht
  clear ht
  go_enter Tryz.func119, Tryz.ntmps119
  go_wp2_with fail
  rw [<- HW0.out]
  refine (qmay_calls _ sa _ _ _ _ sa' y k (HY.out.later B0.out) ⟨_, _, _, rfl⟩ (by omega) false HT.out).mono ?_
  rintro e w1 ⟨rfl, b1⟩
  go_wp2_with fail
  refine (qzero_calls _).mono ?_
  rintro e w2 ⟨v2, rfl, o2, b2⟩
  obtain ⟨s2, P2, q2, e2, P2', q2', e2', rfl, o2⟩ := o2.open_; have O2 := hide o2; clear o2
  have hb := b1.trans b2
  obtain ⟨d1, d2, d3, d4, d5, d6, d7, d8⟩ := row_cells4 (R2.out.later hb)
  have hL := B0.out.trans hb
  have hs1 := b1.size
  have HR := hide (R2.out.later hb)
  go_wp2_with fail
  refine bodyPost_ret (results_rat rfl rfl (HR.out.four _ _ _ _)) rfl ?_
  have oo := Only.four (w.heap.size + 1) w2 (.bool s2) (.slice P2 q2 e2) (.bool false) (.slice P2' q2' e2')
  exact ⟨_, rfl, (O2.out.only oo (by omega)).weaken (by omega), hL.only oo (by omega)⟩
def Cross (a b : Rat) (B : Nat) (w' : World) (v u t : Value) : Prop := OwnI w' B v (a.num * b.den) /\ OwnI w' B u (b.num * a.den) /\ OwnI w' B t (a.den * b.den)
set_option maxHeartbeats 4000000 in
theorem cross_calls (w : World) (va vb : Value) (a b : Rat) (k m : Nat) (ha : RawR w va a k) (hb : RawR w vb b m) (hkm : k + m <= 80000000) :
 Calls Tryz.prog 138 #[va, vb] w (Ret3 w fun w' v u t => Cross a b w.heap.size w' v u t) := by
 have SA := ha.sized; have SB := hb.sized
 have HA := hide ha; have HB := hide hb
 obtain ⟨sa, A1, n1, c1, sa', A1', n1', c1', rfl⟩ := ha.open_
 obtain ⟨sb, A2, n2, c2, sb', A2', n2', c2', rfl⟩ := hb.open_
 obtain ⟨W0, hW0⟩ : ∃ W0, W0 = (((((w.alloc (Obj.cells #[Value.bool sa, Value.slice A1 n1 c1, Value.bool sa', Value.slice A1' n1' c1'] 67)).alloc (Obj.cells #[Value.bool sb, Value.slice A2 n2 c2, Value.bool sb', Value.slice A2' n2' c2'] 67)).alloc (Obj.cells #[Value.bool false, Value.slice none 0 0] 65)).alloc (Obj.cells #[Value.bool false, Value.slice none 0 0] 65)).alloc (Obj.cells #[Value.bool false, Value.slice none 0 0] 65)) := ⟨_, rfl⟩
 obtain ⟨hb0, r1, r2, r3, r4, r5, hsz⟩ := boxes5 w [.bool sa, .slice A1 n1 c1, .bool sa', .slice A1' n1' c1'] [.bool sb, .slice A2 n2 c2, .bool sb', .slice A2' n2' c2'] [.bool false, .slice none 0 0] [.bool false, .slice none 0 0] [.bool false, .slice none 0 0] 67 67 65 65 65 hW0
 have R2 := hide r2; have R3 := hide r3; have R4 := hide r4; have R5 := hide r5; have B0 := hide hb0; have HW0 := hide hW0
 clear ha hb r1 r2 r3 r4 r5 hb0 hW0
 go_enter Tryz.func138, Tryz.ntmps138
 go_wp2_with fail
 rw [<- HW0.out]
 refine (qplain_calls _ _ a k (HA.out.later B0.out) (by omega)).mono ?_
 rintro e w1 ⟨v1, rfl, o1, b1⟩
 obtain ⟨s1, P1, q1, e1, P1', q1', e1', rfl, o1⟩ := o1.open_; have O1 := hide o1; clear o1
 obtain ⟨d1, d2, d3, d4, d5, d6, d7, d8⟩ := row_cells4 (R2.out.later (b1.alloc (Obj.cells #[Value.bool s1, Value.slice P1 q1 e1, Value.bool false, Value.slice P1' q1' e1'] 67)))
 have hs1 := b1.size
 go_wp2_with fail
 obtain ⟨V1, hV1⟩ : ∃ V, V = w1.alloc (Obj.cells #[Value.bool s1, Value.slice P1 q1 e1, Value.bool false, Value.slice P1' q1' e1'] 67) := ⟨_, rfl⟩
 have c1' : Later w1 V1 := by rw [hV1]; exact (Later.refl w1).alloc _
 have x1 : Row V1 w1.heap.size 67 [.bool s1, .slice P1 q1 e1, .bool false, .slice P1' q1' e1'] := by rw [hV1]; exact Row.new w1 _ _
 have hsV1 : V1.heap.size = w1.heap.size + 1 := by rw [hV1]; simp
 rw [<- hV1]
 have X1 := hide x1; have C1 := hide c1'
 clear hV1 x1 c1' d1 d2 d3 d4 d5 d6 d7 d8
 refine (qplain_calls _ _ b m (HB.out.later (B0.out.trans (b1.trans C1.out))) (by omega)).mono ?_
 rintro e w2 ⟨v2, rfl, o2, b2⟩
 obtain ⟨s2, P2, q2, e2, P2', q2', e2', rfl, o2⟩ := o2.open_; have O2 := hide o2; clear o2
 have hs2 := b2.size
 obtain ⟨V2, hV2⟩ : ∃ V, V = w2.alloc (Obj.cells #[Value.bool s2, Value.slice P2 q2 e2, Value.bool false, Value.slice P2' q2' e2'] 67) := ⟨_, rfl⟩
 have c2' : Later w2 V2 := by rw [hV2]; exact (Later.refl w2).alloc _
 have x2 : Row V2 w2.heap.size 67 [.bool s2, .slice P2 q2 e2, .bool false, .slice P2' q2' e2'] := by rw [hV2]; exact Row.new w2 _ _
 have hsV2 : V2.heap.size = w2.heap.size + 1 := by rw [hV2]; simp
 have x1 := X1.out.later (b2.trans c2')
 have C2 := hide ((b1.trans C1.out).trans (b2.trans c2'))
 have HV2 := hide hV2
 obtain ⟨y1, hy1⟩ : ∃ x, x = a.num := ⟨_, rfl⟩
 obtain ⟨y2, hy2⟩ : ∃ x, x = (a.den : Int) := ⟨_, rfl⟩
 obtain ⟨y3, hy3⟩ : ∃ x, x = b.num := ⟨_, rfl⟩
 obtain ⟨y4, hy4⟩ : ∃ x, x = (b.den : Int) := ⟨_, rfl⟩
 have D0 : Hid (Later V2 V2.drew) := hide (Later.refl V2).drew
 have ha1 := (((O1.out.later C1.out).later (b2.trans c2')).num.raw SA.1).later D0.out; have ha2 := (((O1.out.later C1.out).later (b2.trans c2')).den.raw (limbs_castZ SA.2)).later D0.out
 have hb1 := ((O2.out.later c2').num.raw SB.1).later D0.out; have hb2 := ((O2.out.later c2').den.raw (limbs_castZ SB.2)).later D0.out
 rw [<- hy1] at ha1; rw [<- hy2] at ha2; rw [<- hy3] at hb1; rw [<- hy4] at hb2
 have HA1 := hide ha1; have HA2 := hide ha2; have HB1 := hide hb1; have HB2 := hide hb2
 have HY : Hid (∀ B W v u t, OwnI W B v (y1 * y4) -> OwnI W B u (y3 * y2) -> OwnI W B t (y2 * y4) -> Cross a b B W v u t) := hide (by subst hy1 hy2 hy3 hy4; exact fun _ _ _ _ _ h1 h2 h3 => ⟨h1, h2, h3⟩)
 have hszd : V2.drew.heap.size = w2.heap.size + 1 := hsV2
 have x1 := x1.drew; have x2 := x2.drew
 have LV := hide ((B0.out.trans C2.out).trans D0.out)
 have R3 := hide (R3.out.later (C2.out.trans D0.out)); have R4 := hide (R4.out.later (C2.out.trans D0.out)); have R5 := hide (R5.out.later (C2.out.trans D0.out))
 have HT1 : Hid (∀ w', Later V2.drew w' -> w'.cell? ⟨w1.heap.size, 0, none⟩ = some (.bool s1) /\ w'.cell? ⟨w1.heap.size, 1, none⟩ = some (.slice P1 q1 e1) /\ w'.cell? ⟨w1.heap.size, 2, none⟩ = some (.bool false) /\ w'.cell? ⟨w1.heap.size, 3, none⟩ = some (.slice P1' q1' e1') /\ w'.cell? ⟨w2.heap.size, 0, none⟩ = some (.bool s2) /\ w'.cell? ⟨w2.heap.size, 1, none⟩ = some (.slice P2 q2 e2) /\ w'.cell? ⟨w2.heap.size, 2, none⟩ = some (.bool false) /\ w'.cell? ⟨w2.heap.size, 3, none⟩ = some (.slice P2' q2' e2')) :=
  hide fun w' hb => ⟨(x1.later hb).cell rfl, (x1.later hb).cell rfl, (x1.later hb).cell rfl, (x1.later hb).cell rfl, (x2.later hb).cell rfl, (x2.later hb).cell rfl, (x2.later hb).cell rfl, (x2.later hb).cell rfl⟩
 have HS1 : Hid (∀ w' a1_ b1_, Later V2.drew w' -> ((w'.setCell ⟨w.heap.size + 2, 0, none⟩ a1_).setCell ⟨w.heap.size + 2, 1, none⟩ b1_).cell? ⟨w1.heap.size, 0, none⟩ = some (.bool s1) /\ ((w'.setCell ⟨w.heap.size + 2, 0, none⟩ a1_).setCell ⟨w.heap.size + 2, 1, none⟩ b1_).cell? ⟨w1.heap.size, 1, none⟩ = some (.slice P1 q1 e1) /\ ((w'.setCell ⟨w.heap.size + 2, 0, none⟩ a1_).setCell ⟨w.heap.size + 2, 1, none⟩ b1_).cell? ⟨w1.heap.size, 2, none⟩ = some (.bool false) /\ ((w'.setCell ⟨w.heap.size + 2, 0, none⟩ a1_).setCell ⟨w.heap.size + 2, 1, none⟩ b1_).cell? ⟨w1.heap.size, 3, none⟩ = some (.slice P1' q1' e1') /\ ((w'.setCell ⟨w.heap.size + 2, 0, none⟩ a1_).setCell ⟨w.heap.size + 2, 1, none⟩ b1_).cell? ⟨w2.heap.size, 0, none⟩ = some (.bool s2) /\ ((w'.setCell ⟨w.heap.size + 2, 0, none⟩ a1_).setCell ⟨w.heap.size + 2, 1, none⟩ b1_).cell? ⟨w2.heap.size, 1, none⟩ = some (.slice P2 q2 e2) /\ ((w'.setCell ⟨w.heap.size + 2, 0, none⟩ a1_).setCell ⟨w.heap.size + 2, 1, none⟩ b1_).cell? ⟨w2.heap.size, 2, none⟩ = some (.bool false) /\ ((w'.setCell ⟨w.heap.size + 2, 0, none⟩ a1_).setCell ⟨w.heap.size + 2, 1, none⟩ b1_).cell? ⟨w2.heap.size, 3, none⟩ = some (.slice P2' q2' e2')) :=
  hide fun w' a1_ b1_ hb => ⟨((x1.later hb).far2 (by omega) a1_ b1_).cell rfl, ((x1.later hb).far2 (by omega) a1_ b1_).cell rfl, ((x1.later hb).far2 (by omega) a1_ b1_).cell rfl, ((x1.later hb).far2 (by omega) a1_ b1_).cell rfl, ((x2.later hb).far2 (by omega) a1_ b1_).cell rfl, ((x2.later hb).far2 (by omega) a1_ b1_).cell rfl, ((x2.later hb).far2 (by omega) a1_ b1_).cell rfl, ((x2.later hb).far2 (by omega) a1_ b1_).cell rfl⟩
 have HS2 : Hid (∀ w' a1_ b1_ a2_ b2_, Later V2.drew w' -> ((((w'.setCell ⟨w.heap.size + 2, 0, none⟩ a1_).setCell ⟨w.heap.size + 2, 1, none⟩ b1_).setCell ⟨w.heap.size + 3, 0, none⟩ a2_).setCell ⟨w.heap.size + 3, 1, none⟩ b2_).cell? ⟨w1.heap.size, 0, none⟩ = some (.bool s1) /\ ((((w'.setCell ⟨w.heap.size + 2, 0, none⟩ a1_).setCell ⟨w.heap.size + 2, 1, none⟩ b1_).setCell ⟨w.heap.size + 3, 0, none⟩ a2_).setCell ⟨w.heap.size + 3, 1, none⟩ b2_).cell? ⟨w1.heap.size, 1, none⟩ = some (.slice P1 q1 e1) /\ ((((w'.setCell ⟨w.heap.size + 2, 0, none⟩ a1_).setCell ⟨w.heap.size + 2, 1, none⟩ b1_).setCell ⟨w.heap.size + 3, 0, none⟩ a2_).setCell ⟨w.heap.size + 3, 1, none⟩ b2_).cell? ⟨w1.heap.size, 2, none⟩ = some (.bool false) /\ ((((w'.setCell ⟨w.heap.size + 2, 0, none⟩ a1_).setCell ⟨w.heap.size + 2, 1, none⟩ b1_).setCell ⟨w.heap.size + 3, 0, none⟩ a2_).setCell ⟨w.heap.size + 3, 1, none⟩ b2_).cell? ⟨w1.heap.size, 3, none⟩ = some (.slice P1' q1' e1') /\ ((((w'.setCell ⟨w.heap.size + 2, 0, none⟩ a1_).setCell ⟨w.heap.size + 2, 1, none⟩ b1_).setCell ⟨w.heap.size + 3, 0, none⟩ a2_).setCell ⟨w.heap.size + 3, 1, none⟩ b2_).cell? ⟨w2.heap.size, 0, none⟩ = some (.bool s2) /\ ((((w'.setCell ⟨w.heap.size + 2, 0, none⟩ a1_).setCell ⟨w.heap.size + 2, 1, none⟩ b1_).setCell ⟨w.heap.size + 3, 0, none⟩ a2_).setCell ⟨w.heap.size + 3, 1, none⟩ b2_).cell? ⟨w2.heap.size, 1, none⟩ = some (.slice P2 q2 e2) /\ ((((w'.setCell ⟨w.heap.size + 2, 0, none⟩ a1_).setCell ⟨w.heap.size + 2, 1, none⟩ b1_).setCell ⟨w.heap.size + 3, 0, none⟩ a2_).setCell ⟨w.heap.size + 3, 1, none⟩ b2_).cell? ⟨w2.heap.size, 2, none⟩ = some (.bool false) /\ ((((w'.setCell ⟨w.heap.size + 2, 0, none⟩ a1_).setCell ⟨w.heap.size + 2, 1, none⟩ b1_).setCell ⟨w.heap.size + 3, 0, none⟩ a2_).setCell ⟨w.heap.size + 3, 1, none⟩ b2_).cell? ⟨w2.heap.size, 3, none⟩ = some (.slice P2' q2' e2')) :=
  hide fun w' a1_ b1_ a2_ b2_ hb => ⟨(((x1.later hb).far2 (by omega) a1_ b1_).far2 (by omega) a2_ b2_).cell rfl, (((x1.later hb).far2 (by omega) a1_ b1_).far2 (by omega) a2_ b2_).cell rfl, (((x1.later hb).far2 (by omega) a1_ b1_).far2 (by omega) a2_ b2_).cell rfl, (((x1.later hb).far2 (by omega) a1_ b1_).far2 (by omega) a2_ b2_).cell rfl, (((x2.later hb).far2 (by omega) a1_ b1_).far2 (by omega) a2_ b2_).cell rfl, (((x2.later hb).far2 (by omega) a1_ b1_).far2 (by omega) a2_ b2_).cell rfl, (((x2.later hb).far2 (by omega) a1_ b1_).far2 (by omega) a2_ b2_).cell rfl, (((x2.later hb).far2 (by omega) a1_ b1_).far2 (by omega) a2_ b2_).cell rfl⟩
 have HS3 : Hid (∀ w' a1_ b1_ a2_ b2_ a3_ b3_, Later V2.drew w' -> ((((((w'.setCell ⟨w.heap.size + 2, 0, none⟩ a1_).setCell ⟨w.heap.size + 2, 1, none⟩ b1_).setCell ⟨w.heap.size + 3, 0, none⟩ a2_).setCell ⟨w.heap.size + 3, 1, none⟩ b2_).setCell ⟨w.heap.size + 4, 0, none⟩ a3_).setCell ⟨w.heap.size + 4, 1, none⟩ b3_).cell? ⟨w1.heap.size, 0, none⟩ = some (.bool s1) /\ ((((((w'.setCell ⟨w.heap.size + 2, 0, none⟩ a1_).setCell ⟨w.heap.size + 2, 1, none⟩ b1_).setCell ⟨w.heap.size + 3, 0, none⟩ a2_).setCell ⟨w.heap.size + 3, 1, none⟩ b2_).setCell ⟨w.heap.size + 4, 0, none⟩ a3_).setCell ⟨w.heap.size + 4, 1, none⟩ b3_).cell? ⟨w1.heap.size, 1, none⟩ = some (.slice P1 q1 e1) /\ ((((((w'.setCell ⟨w.heap.size + 2, 0, none⟩ a1_).setCell ⟨w.heap.size + 2, 1, none⟩ b1_).setCell ⟨w.heap.size + 3, 0, none⟩ a2_).setCell ⟨w.heap.size + 3, 1, none⟩ b2_).setCell ⟨w.heap.size + 4, 0, none⟩ a3_).setCell ⟨w.heap.size + 4, 1, none⟩ b3_).cell? ⟨w1.heap.size, 2, none⟩ = some (.bool false) /\ ((((((w'.setCell ⟨w.heap.size + 2, 0, none⟩ a1_).setCell ⟨w.heap.size + 2, 1, none⟩ b1_).setCell ⟨w.heap.size + 3, 0, none⟩ a2_).setCell ⟨w.heap.size + 3, 1, none⟩ b2_).setCell ⟨w.heap.size + 4, 0, none⟩ a3_).setCell ⟨w.heap.size + 4, 1, none⟩ b3_).cell? ⟨w1.heap.size, 3, none⟩ = some (.slice P1' q1' e1') /\ ((((((w'.setCell ⟨w.heap.size + 2, 0, none⟩ a1_).setCell ⟨w.heap.size + 2, 1, none⟩ b1_).setCell ⟨w.heap.size + 3, 0, none⟩ a2_).setCell ⟨w.heap.size + 3, 1, none⟩ b2_).setCell ⟨w.heap.size + 4, 0, none⟩ a3_).setCell ⟨w.heap.size + 4, 1, none⟩ b3_).cell? ⟨w2.heap.size, 0, none⟩ = some (.bool s2) /\ ((((((w'.setCell ⟨w.heap.size + 2, 0, none⟩ a1_).setCell ⟨w.heap.size + 2, 1, none⟩ b1_).setCell ⟨w.heap.size + 3, 0, none⟩ a2_).setCell ⟨w.heap.size + 3, 1, none⟩ b2_).setCell ⟨w.heap.size + 4, 0, none⟩ a3_).setCell ⟨w.heap.size + 4, 1, none⟩ b3_).cell? ⟨w2.heap.size, 1, none⟩ = some (.slice P2 q2 e2) /\ ((((((w'.setCell ⟨w.heap.size + 2, 0, none⟩ a1_).setCell ⟨w.heap.size + 2, 1, none⟩ b1_).setCell ⟨w.heap.size + 3, 0, none⟩ a2_).setCell ⟨w.heap.size + 3, 1, none⟩ b2_).setCell ⟨w.heap.size + 4, 0, none⟩ a3_).setCell ⟨w.heap.size + 4, 1, none⟩ b3_).cell? ⟨w2.heap.size, 2, none⟩ = some (.bool false) /\ ((((((w'.setCell ⟨w.heap.size + 2, 0, none⟩ a1_).setCell ⟨w.heap.size + 2, 1, none⟩ b1_).setCell ⟨w.heap.size + 3, 0, none⟩ a2_).setCell ⟨w.heap.size + 3, 1, none⟩ b2_).setCell ⟨w.heap.size + 4, 0, none⟩ a3_).setCell ⟨w.heap.size + 4, 1, none⟩ b3_).cell? ⟨w2.heap.size, 3, none⟩ = some (.slice P2' q2' e2')) :=
  hide fun w' a1_ b1_ a2_ b2_ a3_ b3_ hb => ⟨((((x1.later hb).far2 (by omega) a1_ b1_).far2 (by omega) a2_ b2_).far2 (by omega) a3_ b3_).cell rfl, ((((x1.later hb).far2 (by omega) a1_ b1_).far2 (by omega) a2_ b2_).far2 (by omega) a3_ b3_).cell rfl, ((((x1.later hb).far2 (by omega) a1_ b1_).far2 (by omega) a2_ b2_).far2 (by omega) a3_ b3_).cell rfl, ((((x1.later hb).far2 (by omega) a1_ b1_).far2 (by omega) a2_ b2_).far2 (by omega) a3_ b3_).cell rfl, ((((x2.later hb).far2 (by omega) a1_ b1_).far2 (by omega) a2_ b2_).far2 (by omega) a3_ b3_).cell rfl, ((((x2.later hb).far2 (by omega) a1_ b1_).far2 (by omega) a2_ b2_).far2 (by omega) a3_ b3_).cell rfl, ((((x2.later hb).far2 (by omega) a1_ b1_).far2 (by omega) a2_ b2_).far2 (by omega) a3_ b3_).cell rfl, ((((x2.later hb).far2 (by omega) a1_ b1_).far2 (by omega) a2_ b2_).far2 (by omega) a3_ b3_).cell rfl⟩
 go_upto_region 3 with fail
 rw [<- HV2.out]
 clear hy1 hy2 hy3 hy4 ha1 ha2 hb1 hb2 x1 x2 c2' SA SB hV2
 refine wp_region_N (fun w' => w'.cell? ⟨w1.heap.size, 0, none⟩ = some (.bool s1) /\ w'.cell? ⟨w1.heap.size, 1, none⟩ = some (.slice P1 q1 e1) /\ w'.cell? ⟨w1.heap.size, 2, none⟩ = some (.bool false) /\ w'.cell? ⟨w1.heap.size, 3, none⟩ = some (.slice P1' q1' e1') /\ w'.cell? ⟨w2.heap.size, 0, none⟩ = some (.bool s2) /\ w'.cell? ⟨w2.heap.size, 1, none⟩ = some (.slice P2 q2 e2) /\ w'.cell? ⟨w2.heap.size, 2, none⟩ = some (.bool false) /\ w'.cell? ⟨w2.heap.size, 3, none⟩ = some (.slice P2' q2' e2')) [] (by kernel_rfl) (HT1.out _ (Later.refl _)) (fun hHeld => ?_)
 refine wpAnyN_take (i := 0) (oi := _) (v := ?_) rfl (by kernel_rfl) (by kernel_rfl) (by kernel_rfl) (by kernel_rfl) (fun _ _ _ h => h) (Or.inl ⟨by rfl, ?_⟩) (by assumption) ?_
 rotate_left
 ·intro w hSw; (try dsimp only at hSw); go_simp
  first | done | with_reducible rfl
 try simp only [Act.put, s1_, s2_, s3_]
 refine wpAnyN_take (i := 1) (oi := _) (v := ?_) rfl (by kernel_rfl) (by kernel_rfl) (by kernel_rfl) (by kernel_rfl) (fun _ _ _ h => h) (Or.inl ⟨by rfl, ?_⟩) (by assumption) ?_
 rotate_left
 ·intro w hSw; (try dsimp only at hSw); go_simp
  first | done | with_reducible rfl
 try simp only [Act.put, s1_, s2_, s3_]
 refine wpAnyN_take (i := 2) (oi := _) (v := ?_) rfl (by kernel_rfl) (by kernel_rfl) (by kernel_rfl) (by kernel_rfl) (fun _ _ _ h => h) (Or.inl ⟨by rfl, ?_⟩) (by assumption) ?_
 rotate_left
 ·intro w hSw; (try dsimp only at hSw); go_simp
  first | done | with_reducible rfl
 try simp only [Act.put, s1_, s2_, s3_]
 refine wpAnyN_take (i := 3) (oi := _) (v := ?_) rfl (by kernel_rfl) (by kernel_rfl) (by kernel_rfl) (by kernel_rfl) (fun _ _ _ h => h) (Or.inl ⟨by rfl, ?_⟩) (by assumption) ?_
 rotate_left
 ·intro w hSw; (try dsimp only at hSw); go_simp
  first | done | with_reducible rfl
 try simp only [Act.put, s1_, s2_, s3_]
 refine wpAnyN_take (i := 5) (oi := _) (v := ?_) rfl (by kernel_rfl) (by kernel_rfl) (by kernel_rfl) (by kernel_rfl) (fun _ _ _ h => h) (Or.inl ⟨by rfl, ?_⟩) (by assumption) ?_
 rotate_left
 ·intro w hSw; (try dsimp only at hSw); go_simp
  first | done | with_reducible rfl
 try simp only [Act.put, s1_, s2_, s3_]
 refine wpAnyN_take (i := 6) (oi := _) (v := ?_) rfl (by kernel_rfl) (by kernel_rfl) (by kernel_rfl) (by kernel_rfl) (fun _ _ _ h => h) (Or.inl ⟨by rfl, ?_⟩) (by assumption) ?_
 rotate_left
 ·intro w hSw; (try dsimp only at hSw); go_simp
  first | done | with_reducible rfl
 try simp only [Act.put, s1_, s2_, s3_]
 refine wpAnyN_take (i := 7) (oi := _) (v := ?_) rfl (by kernel_rfl) (by kernel_rfl) (by kernel_rfl) (by kernel_rfl) (fun _ _ _ h => h) (Or.inl ⟨by rfl, ?_⟩) (by assumption) ?_
 rotate_left
 ·intro w hSw; (try dsimp only at hSw); go_simp
  first | done | with_reducible rfl
 try simp only [Act.put, s1_, s2_, s3_]
 refine wpAnyN_take (i := 8) (oi := _) (v := ?_) rfl (by kernel_rfl) (by kernel_rfl) (by kernel_rfl) (by kernel_rfl) (fun _ _ _ h => h) (Or.inl ⟨by rfl, ?_⟩) (by assumption) ?_
 rotate_left
 ·intro w hSw; (try dsimp only at hSw); go_simp
  first | done | with_reducible rfl
 try simp only [Act.put, s1_, s2_, s3_]
 refine wpAnyN_take (i := 10) (oi := _) (v := ?_) rfl (by kernel_rfl) (by kernel_rfl) (by kernel_rfl) (by kernel_rfl) (fun _ _ _ h => h) (Or.inl ⟨by rfl, ?_⟩) (by assumption) ?_
 rotate_left
 ·intro w hSw; (try dsimp only at hSw); go_simp
  first | done | with_reducible rfl
 try simp only [Act.put, s1_, s2_, s3_]
 refine wpAnyN_take (i := 11) (oi := _) (v := ?_) rfl (by kernel_rfl) (by kernel_rfl) (by kernel_rfl) (by kernel_rfl) (fun _ _ _ h => h) (Or.inl ⟨by rfl, ?_⟩) (by assumption) ?_
 rotate_left
 ·intro w hSw; (try dsimp only at hSw); go_simp
  first | done | with_reducible rfl
 try simp only [Act.put, s1_, s2_, s3_]
 refine wpAnyN_take (i := 12) (oi := _) (v := ?_) rfl (by kernel_rfl) (by kernel_rfl) (by kernel_rfl) (by kernel_rfl) (fun _ _ _ h => h) (Or.inl ⟨by rfl, ?_⟩) (by assumption) ?_
 rotate_left
 ·intro w hSw; (try dsimp only at hSw); go_simp
  first | done | with_reducible rfl
 try simp only [Act.put, s1_, s2_, s3_]
 refine wpAnyN_take (i := 13) (oi := _) (v := ?_) rfl (by kernel_rfl) (by kernel_rfl) (by kernel_rfl) (by kernel_rfl) (fun _ _ _ h => h) (Or.inl ⟨by rfl, ?_⟩) (by assumption) ?_
 rotate_left
 ·intro w hSw; (try dsimp only at hSw); go_simp
  first | done | with_reducible rfl
 try simp only [Act.put, s1_, s2_, s3_]
 refine wpAnyN_ready (rs := [4]) (by kernel_rfl) (by simp) ?_
 refine AllReadyN.held rfl (by rfl) (fun K hK => ?_) AllReadyN.nil
 go_simp
 (with_reducible refine (zmul_calls _ _ _ y1 y4 (k+1) (m+1) (HA1.out.later (Later.refl _)) (HB2.out.later (Later.refl _)) (by omega) (by omega)).mono ?_)
 rintro e w3 ⟨v3, rfl, o3, b3⟩
 obtain ⟨s3, P3, q3, e3, rfl, o3⟩ := o3.open_; have O3 := hide o3; clear o3
 have hs3 := b3.size
 refine hK.out _ _ ?_ (fun hHeld => ?_)
 ·exact HT1.out _ b3
 clear hK K
 try simp only [Act.put, s1_, s2_, s3_]
 refine wpAnyN_ready (rs := [9]) (by kernel_rfl) (by simp) ?_
 refine AllReadyN.held rfl (by rfl) (fun K hK => ?_) AllReadyN.nil
 go_simp
 (with_reducible refine (zmul_calls _ _ _ y3 y2 (m+1) (k+1) (HB1.out.later b3) (HA2.out.later b3) (by omega) (by omega)).mono ?_)
 rintro e w4 ⟨v4, rfl, o4, b4⟩
 obtain ⟨s4, P4, q4, e4, rfl, o4⟩ := o4.open_; have O4 := hide o4; clear o4
 have hs4 := b4.size
 refine hK.out _ _ ?_ (fun hHeld => ?_)
 ·exact HT1.out _ (b3.trans b4)
 clear hK K
 try simp only [Act.put, s1_, s2_, s3_]
 refine wpAnyN_ready (rs := [14]) (by kernel_rfl) (by simp) ?_
 refine AllReadyN.held rfl (by rfl) (fun K hK => ?_) AllReadyN.nil
 go_simp
 (with_reducible refine (zmul_calls _ _ _ y2 y4 (k+1) (m+1) (HA2.out.later (b3.trans b4)) (HB2.out.later (b3.trans b4)) (by omega) (by omega)).mono ?_)
 rintro e w5 ⟨v5, rfl, o5, b5⟩
 obtain ⟨s5, P5, q5, e5, rfl, o5⟩ := o5.open_; have O5 := hide o5; clear o5
 have hs5 := b5.size
 have hL5 := (b3.trans b4).trans b5
 have T3 := hide (R3.out.later hL5); have T4 := hide (R4.out.later hL5); have T5 := hide (R5.out.later hL5)
 have L5 := hide (LV.out.trans hL5)
 have I3 := hide (((O3.out.later b4).later b5).weaken (C := w.heap.size + 5) (by omega)); have I4 := hide ((O4.out.later b5).weaken (C := w.heap.size + 5) (by omega)); have I5 := hide (O5.out.weaken (C := w.heap.size + 5) (by omega))
 clear hL5
 obtain ⟨t1, t2, t3, t4⟩ := row_cells2 T3.out
 obtain ⟨t5, t6, t7, t8⟩ := row_cells2 T4.out
 obtain ⟨t9, t10, t11, t12⟩ := row_cells2 T5.out
 refine hK.out _ _ ?_ (fun hHeld => ?_)
 ·exact HT1.out _ ((b3.trans b4).trans b5)
 clear hK K
 try simp only [Act.put, s1_, s2_, s3_]
 refine wpAnyN_ready (rs := [15]) (by kernel_rfl) (by simp) ?_
 refine AllReadyN.held rfl (by rfl) (fun K hK => ?_) AllReadyN.nil
 go_simp
 refine hK.out _ _ ?_ (fun hHeld => ?_)
 ·exact HS1.out _ _ _ ((b3.trans b4).trans b5)
 clear hK K
 try simp only [Act.put, s1_, s2_, s3_]
 refine wpAnyN_ready (rs := [16]) (by kernel_rfl) (by simp) ?_
 refine AllReadyN.held rfl (by rfl) (fun K hK => ?_) AllReadyN.nil
 go_simp
 refine hK.out _ _ ?_ (fun hHeld => ?_)
 ·exact HS2.out _ _ _ _ _ ((b3.trans b4).trans b5)
 clear hK K
 try simp only [Act.put, s1_, s2_, s3_]
 refine wpAnyN_ready (rs := [17]) (by kernel_rfl) (by simp) ?_
 refine AllReadyN.held rfl (by rfl) (fun K hK => ?_) AllReadyN.nil
 go_simp
 refine hK.out _ _ ?_ (fun hHeld => ?_)
 ·exact HS3.out _ _ _ _ _ _ _ ((b3.trans b4).trans b5)
 clear hK K
 try simp only [Act.put, s1_, s2_, s3_]
 refine wpAnyN_done (by kernel_rfl) ?_ _
 have oo0 : Onlys [w.heap.size + 2, w.heap.size + 3, w.heap.size + 4] w5 w5 := Onlys.refl _ _
 have u1 := Only.two (w.heap.size + 2) w5 (.bool s3) (.slice P3 q3 e3)
 have z3_1 := Row.two (T3.out) (.bool s3) (.slice P3 q3 e3)
 have z4_1 := Row.only (T4.out) u1 (by omega)
 have z5_1 := Row.only (T5.out) u1 (by omega)
 obtain ⟨U1, hU1⟩ : ∃ U, U = ((w5.setCell ⟨w.heap.size + 2, 0, none⟩ (.bool s3)).setCell ⟨w.heap.size + 2, 1, none⟩ (.slice P3 q3 e3)) := ⟨_, rfl⟩
 rw [<- hU1] at u1 z3_1 z4_1 z5_1
 have oo1 := oo0.then_ u1 (by simp)
 have u2 := Only.two (w.heap.size + 3) U1 (.bool s4) (.slice P4 q4 e4)
 have z3_2 := Row.only (z3_1) u2 (by omega)
 have z4_2 := Row.two (z4_1) (.bool s4) (.slice P4 q4 e4)
 have z5_2 := Row.only (z5_1) u2 (by omega)
 obtain ⟨U2, hU2⟩ : ∃ U, U = ((U1.setCell ⟨w.heap.size + 3, 0, none⟩ (.bool s4)).setCell ⟨w.heap.size + 3, 1, none⟩ (.slice P4 q4 e4)) := ⟨_, rfl⟩
 rw [<- hU2] at u2 z3_2 z4_2 z5_2
 have oo2 := oo1.then_ u2 (by simp)
 have u3 := Only.two (w.heap.size + 4) U2 (.bool s5) (.slice P5 q5 e5)
 have z3_3 := Row.only (z3_2) u3 (by omega)
 have z4_3 := Row.only (z4_2) u3 (by omega)
 have z5_3 := Row.two (z5_2) (.bool s5) (.slice P5 q5 e5)
 obtain ⟨U3, hU3⟩ : ∃ U, U = ((U2.setCell ⟨w.heap.size + 4, 0, none⟩ (.bool s5)).setCell ⟨w.heap.size + 4, 1, none⟩ (.slice P5 q5 e5)) := ⟨_, rfl⟩
 rw [<- hU3] at u3 z3_3 z4_3 z5_3
 have oo3 := oo2.then_ u3 (by simp)
 have hUU : ((((((w5.setCell ⟨w.heap.size + 2, 0, none⟩ (.bool s3)).setCell ⟨w.heap.size + 2, 1, none⟩ (.slice P3 q3 e3)).setCell ⟨w.heap.size + 3, 0, none⟩ (.bool s4)).setCell ⟨w.heap.size + 3, 1, none⟩ (.slice P4 q4 e4)).setCell ⟨w.heap.size + 4, 0, none⟩ (.bool s5)).setCell ⟨w.heap.size + 4, 1, none⟩ (.slice P5 q5 e5)) = U3 := by rw [hU3, hU2, hU1]
 have HUU := hide hUU
 have Z3 := hide z3_3; have Z4 := hide z4_3; have Z5 := hide z5_3; have OO := hide oo3
 clear hUU z3_1 z3_2 z3_3 z4_1 z4_2 z4_3 z5_1 z5_2 z5_3 oo0 oo1 oo2 oo3 u1 u2 u3 hU1 hU2 hU3 t1 t2 t3 t4 t5 t6 t7 t8 t9 t10 t11 t12
 (try clear hHeld)
 go_wp2_with fail
 rw [HUU.out]
 refine bodyPost_ret (results_int3 rfl rfl rfl rfl Z3.out Z4.out Z5.out) rfl ?_
 refine ⟨_, _, _, rfl, HY.out _ _ _ _ _ ?_ ?_ ?_, L5.out.onlys OO.out (by simp)⟩
 ·exact (I3.out.onlys OO.out (by simp <;> omega)).weaken (by omega)
 ·exact (I4.out.onlys OO.out (by simp <;> omega)).weaken (by omega)
 ·exact (I5.out.onlys OO.out (by simp <;> omega)).weaken (by omega)
end Go.Proofs.YtncbebfhakcgdaaGreat
namespace Go.Proofs.YtncbebfhakcgdaaGreat
open Go.RowKit Go.Shelf
attribute [local go_sem ↓] Go.wp_at_zero Go.wp_at_succ
theorem rawR_mk {w : World} {s s' : Bool} {A A' : Option Addr} {n c n' c' k : Nat} {x y : Int} {q : Rat} (h : RawI w (.agg #[.bool s, .slice A n c]) x k) (h' : RawI w (.agg #[.bool s', .slice A' n' c']) y k) (hq : q = ratOf x y) :
 RawR w (.agg #[.bool s, .slice A n c, .bool s', .slice A' n' c']) q k := ⟨_, _, _, _, _, _, _, _, x, y, rfl, h, h', hq⟩
set_option maxHeartbeats 4000000 in
theorem qcmp_calls (w : World) (va vb : Value) (a b : Rat) (k m : Nat) (ha : RawR w va a k) (hb : RawR w vb b m) (hkm : k + m <= 80000000) :
 Calls Tryz.prog 116 #[va, vb] w (RetV w (.int .i64 (cmpQ a b))) := by
 obtain ⟨c, hc⟩ : ∃ c, cmpQ a b = c := ⟨_, rfl⟩
 rw [hc]
 rw [<- cmpZ_cmpQ] at hc
 have HC := hide hc
 clear hc
 have SA := ha.sized; have SB := hb.sized
 have HA := hide ha; have HB := hide hb
 obtain ⟨sa, A1, n1, c1, sa', A1', n1', c1', rfl⟩ := ha.open_
 obtain ⟨sb, A2, n2, c2, sb', A2', n2', c2', rfl⟩ := hb.open_
 obtain ⟨W0, hW0⟩ : ∃ W0, W0 = ((w.alloc (Obj.cells #[Value.bool sa, Value.slice A1 n1 c1, Value.bool sa', Value.slice A1' n1' c1'] 67)).alloc (Obj.cells #[Value.bool sb, Value.slice A2 n2 c2, Value.bool sb', Value.slice A2' n2' c2'] 67)) := ⟨_, rfl⟩
 obtain ⟨hb0, r1, r2, hsz⟩ := boxes2 w [.bool sa, .slice A1 n1 c1, .bool sa', .slice A1' n1' c1'] [.bool sb, .slice A2 n2 c2, .bool sb', .slice A2' n2' c2'] 67 67 hW0
 have B0 := hide hb0; have HW0 := hide hW0
 clear ha hb r1 r2 hb0 hW0
 go_enter Tryz.func116, Tryz.ntmps116
 go_wp2_with fail
 rw [<- HW0.out]
 refine (cross_calls _ _ _ a b k m (HA.out.later B0.out) (HB.out.later B0.out) (by omega)).mono ?_
 rintro e w1 ⟨v1, v2, v3, rfl, ⟨o1, o2, o3⟩, b1⟩
 obtain ⟨s1, P1, q1, e1, rfl, o1⟩ := o1.open_
 obtain ⟨s2, P2, q2, e2, rfl, o2⟩ := o2.open_
 obtain ⟨s3, P3, q3, e3, rfl, o3⟩ := o3.open_
 have hs1 := b1.size
 obtain ⟨V1, hV1⟩ : ∃ V1, V1 = (((w1.alloc (Obj.cells #[Value.bool s1, Value.slice P1 q1 e1] 65)).alloc (Obj.cells #[Value.bool s2, Value.slice P2 q2 e2] 65)).alloc (Obj.cells #[Value.bool s3, Value.slice P3 q3 e3] 65)) := ⟨_, rfl⟩
 obtain ⟨c1', x1, x2, x3, hsV⟩ := boxes3 w1 [.bool s1, .slice P1 q1 e1] [.bool s2, .slice P2 q2 e2] [.bool s3, .slice P3 q3 e3] 65 65 65 hV1
 have HV1 := hide hV1
 have C1 := hide c1'
 clear hV1
 obtain ⟨d1, d2, d3, d4⟩ := row_cells2 x1
 obtain ⟨d5, d6, d7, d8⟩ := row_cells2 x2
 rw [HV1.out] at d1 d2 d3 d4 d5 d6 d7 d8
 have Z1 := limbs_mulZ SA.1 (limbs_castZ SB.2); have Z2 := limbs_mulZ SB.1 (limbs_castZ SA.2)
 have O1 := hide ((o1.raw Z1).later c1'); have O2 := hide ((o2.raw Z2).later c1')
 have hL := (B0.out.trans b1).trans c1'
 clear o1 o2 o3 x1 x2 x3 c1' SA SB Z1 Z2
 go_wp2_with fail
 rw [<- HV1.out]
 refine (zcmp_calls _ _ _ _ _ _ _ O1.out O2.out (by omega) (by omega)).mono ?_
 rintro e w2 ⟨rfl, b2⟩
 rw [HC.out]
 go_wp2_with fail
 go_ret
 exact ⟨rfl, hL.trans b2⟩
end Go.Proofs.YtncbebfhakcgdaaGreat
namespace Go.Proofs.YtncbebfhakcgdaaGreat
open Go.RowKit Go.Shelf
attribute [local go_sem ↓] Go.wp_at_zero Go.wp_at_succ
theorem of_law (a b : Int) (hb : b ≠ 0) : Rat.divInt a b = ratOf (sgn (decide (a < 0) != decide (b < 0)) a.natAbs) (sgn false b.natAbs) := by
 have hp : 0 < sgn false b.natAbs := by simp [sgn]; omega
 rw [ratOf_pos hp, Rat.divInt_eq_div, Rat.divInt_eq_div]
 have hA : (sgn false b.natAbs : Int) = if b < 0 then -b else b := by simp [sgn]; split <;> omega
 have hB : sgn (decide (a < 0) != decide (b < 0)) a.natAbs = if b < 0 then -a else a := by
  unfold sgn
  by_cases h1 : a < 0 <;> by_cases h2 : b < 0 <;> simp [h1, h2] <;> omega
 rw [hA, hB]
 have hb' : (b : Rat) ≠ 0 := by simpa using hb
 split
 ·rw [Rat.intCast_neg, Rat.intCast_neg]; grind
 ·rfl
set_option maxHeartbeats 4000000 in
theorem qof_calls (w : World) (a b : Int) (ha1 : -9223372036854775808 <= a) (ha2 : a < 9223372036854775808) (hb1 : -9223372036854775808 <= b) (hb2 : b < 9223372036854775808) (hb0 : b ≠ 0) (q : Rat) (hq : Rat.divInt a b = q) :
 Calls Tryz.prog 92 #[.int .i64 a, .int .i64 b] w (Ret2 w fun w' v o => OwnR w' w.heap.size v q /\ o = .bool true) := by
 have hql := of_law a b hb0
 rw [hq] at hql
 have hla : (limbs a.natAbs).length <= 3 := length_limbs_le (by omega)
 have hlb : (limbs b.natAbs).length <= 3 := length_limbs_le (by omega)
 have t0 : (b == 0) = false := by simpa using hb0
 have HQL := hide hql
 obtain ⟨W0, hW0⟩ : ∃ W0, W0 = w.alloc (Obj.cells #[Value.bool false, Value.slice none 0 0, Value.bool false, Value.slice none 0 0] 67) := ⟨_, rfl⟩
 obtain ⟨hb0', r1, hsz⟩ := boxes1 w [.bool false, .slice none 0 0, .bool false, .slice none 0 0] 67 hW0
 have R1 := hide r1; have B0 := hide hb0'; have HW0 := hide hW0
 clear hq hql hb0 r1 hb0' hW0
 go_enter Tryz.func92, Tryz.ntmps92
 go_wp2_with fail
 rw [<- HW0.out]
 refine (zof_calls _ a ha1 ha2).mono ?_
 rintro e w1 ⟨v1, rfl, o1, b1⟩
 obtain ⟨s1, P1, q1, e1, rfl, o1⟩ := o1.open_; have O1 := hide o1; clear o1
 have hs1 := b1.size
 go_wp2_with fail
 obtain ⟨V1, hV1⟩ : ∃ V, V = w1.alloc (Obj.cells #[Value.bool s1, Value.slice P1 q1 e1] 65) := ⟨_, rfl⟩
 have c1' : Later w1 V1 := by rw [hV1]; exact (Later.refl w1).alloc _
 have x1 : Row V1 w1.heap.size 65 [.bool s1, .slice P1 q1 e1] := by rw [hV1]; exact Row.new w1 _ _
 have hsV1 : V1.heap.size = w1.heap.size + 1 := by rw [hV1]; simp
 rw [<- hV1]
 have X1 := hide x1; have C1 := hide c1'
 clear hV1 x1 c1'
 refine (zof_calls _ b hb1 hb2).mono ?_
 rintro e w2 ⟨v2, rfl, o2, b2⟩
 obtain ⟨s2, P2, q2, e2, rfl, o2⟩ := o2.open_; have O2 := hide o2; clear o2
 have hs2 := b2.size
 obtain ⟨V2, hV2⟩ : ∃ V, V = w2.alloc (Obj.cells #[Value.bool s2, Value.slice P2 q2 e2] 65) := ⟨_, rfl⟩
 have c2' : Later w2 V2 := by rw [hV2]; exact (Later.refl w2).alloc _
 have x2 : Row V2 w2.heap.size 65 [.bool s2, .slice P2 q2 e2] := by rw [hV2]; exact Row.new w2 _ _
 have hsV2 : V2.heap.size = w2.heap.size + 1 := by rw [hV2]; simp
 have x1 := X1.out.later (b2.trans c2')
 obtain ⟨d1, d2, d3, d4⟩ := row_cells2 x1
 obtain ⟨d5, d6, d7, d8⟩ := row_cells2 x2
 rw [hV2] at d1 d2 d3 d4 d5 d6 d7 d8
 have HV2 := hide hV2
 have I1 := hide ((O1.out.later C1.out).later (b2.trans c2')); have I2 := hide (O2.out.later c2')
 have k2 := hide (((B0.out.trans b1).trans C1.out).trans (b2.trans c2'))
 have HR := hide (R1.out.later ((b1.trans C1.out).trans (b2.trans c2')))
 have hne : (!(s1 == s2)) = (decide (a < 0) != decide (b < 0)) := by rw [O1.out.sign, O2.out.sign]; rfl
 have HNE := hide hne
 clear x1 x2 c2' hne
 go_wp2_with fail
 rw [<- HV2.out]
 have hraw : RawR V2 (.agg #[.bool (!(s1 == s2)), .slice P1 q1 e1, .bool false, .slice P2 q2 e2]) q 3 := rawR_mk (rawI_mk I1.out.own hla) (rawI_mk I2.out.own hlb) (by rw [HNE.out]; exact HQL.out)
 refine (qplain_calls _ _ q 3 hraw (by omega)).mono ?_
 rintro e w3 ⟨v3, rfl, o3, b3⟩
 obtain ⟨s3, P3, q3, e3, P3', q3', e3', rfl, o3⟩ := o3.open_; have O3 := hide o3; clear o3
 clear d1 d2 d3 d4 d5 d6 d7 d8 hraw
 obtain ⟨f1, f2, f3, f4, f5, f6, f7, f8⟩ := row_cells4 (HR.out.later b3)
 have HR3 := hide (HR.out.later b3)
 have hL := k2.out.trans b3
 clear f1 f2 f3 f4 f5 f6 f7 f8
 obtain ⟨f1, f2, f3, f4, f5, f6, f7, f8⟩ := row_cells4 HR3.out
 go_wp2_with fail
 refine bodyPost_ret (results_rat_bool rfl rfl rfl (HR3.out.four _ _ _ _)) rfl ?_
 have oo := Only.four w.heap.size w3 (.bool s3) (.slice P3 q3 e3) (.bool false) (.slice P3' q3' e3')
 exact ⟨_, _, rfl, ⟨(O3.out.only oo (by omega)).weaken (by omega), rfl⟩, hL.only oo (by omega)⟩
end Go.Proofs.YtncbebfhakcgdaaGreat
namespace Go.Proofs.YtncbebfhakcgdaaGreat
open Go.RowKit
def On (w : World) (P : Nat -> Prop) (T : World -> Prop) : Prop := ∃ F : Nat -> Prop, (∀ b, F b -> P b /\ b < w.heap.size) /\ ∀ W : World, (∀ b, F b -> W.heap[b]? = w.heap[b]?) -> T W
section
variable {w w' : World} {P P' : Nat -> Prop} {T T' : World -> Prop}
theorem On.now (h : On w P T) : T w := by obtain ⟨F, h1, h2⟩ := h; exact h2 w fun _ _ => rfl
theorem On.mono (h : On w P T) (hp : ∀ b, P b -> b < w.heap.size -> P' b) : On w P' T := by
 obtain ⟨F, h1, h2⟩ := h; exact ⟨F, fun b hb => ⟨hp b (h1 b hb).1 (h1 b hb).2, (h1 b hb).2⟩, h2⟩
theorem On.map (h : On w P T) (ht : ∀ W, T W -> T' W) : On w P T' := by
 obtain ⟨F, h1, h2⟩ := h; exact ⟨F, h1, fun W hW => ht W (h2 W hW)⟩
theorem On.and (h : On w P T) (k : On w P T') : On w P (fun W => T W /\ T' W) := by
 obtain ⟨F, h1, h2⟩ := h
 obtain ⟨G, k1, k2⟩ := k
 exact ⟨fun b => F b ∨ G b, fun b hb => hb.elim (h1 b) (k1 b), fun W hW => ⟨h2 W fun b hb => hW b (.inl hb), k2 W fun b hb => hW b (.inr hb)⟩⟩
theorem On.keep (h : On w P T) (hs : w.heap.size <= w'.heap.size) (hk : ∀ b, P b -> b < w.heap.size -> w'.heap[b]? = w.heap[b]?) : On w' P T := by
 obtain ⟨F, h1, h2⟩ := h
 exact ⟨F, fun b hb => ⟨(h1 b hb).1, Nat.lt_of_lt_of_le (h1 b hb).2 hs⟩, fun W hW => h2 W fun b hb => (hW b hb).trans (hk b (h1 b hb).1 (h1 b hb).2)⟩
theorem On.later (h : On w P T) (hb : Later w w') : On w' P T := h.keep hb.size fun b _ hlt => hb.block b hlt
theorem On.only {g : Nat} (h : On w P T) (o : Only g w w') (hg : ¬ P g) : On w' P T := h.keep (by rw [o.size]; exact Nat.le_refl _) fun b hb _ => o.block b (fun e => hg (e ▸ hb))
theorem On.grown {row : Option Nat} (h : On w P T) (hg : w.grownBy w' row) (hr : ∀ b, P b -> b < w.heap.size -> some b ≠ row) : On w' P T := h.keep hg.size fun b hb hlt => hg.block b hlt (hr b hb hlt)
theorem On.pure (h : ∀ W, T W) : On w P T := ⟨fun _ => False, fun _ hb => hb.elim, fun W _ => h W⟩
theorem On.all {α : Type} {T : α -> World -> Prop} (l : List α) (h : ∀ x ∈ l, On w P (T x)) : On w P (fun W => ∀ x ∈ l, T x W) := by
 induction l with
 | nil => exact On.pure fun W x hx => by cases hx
 | cons a l ih =>
   refine (On.and (h a (List.mem_cons_self ..)) (ih fun x hx => h x (List.mem_cons_of_mem _ hx))).map fun W ⟨h1, h2⟩ x hx => ?_
   rcases List.mem_cons.1 hx with rfl | hx
   ·exact h1
   ·exact h2 x hx
theorem On.of_row {g : Nat} {t : TypeId} {cs : List Value} (h : Row w g t cs) (hP : P g) (ht : ∀ W, Row W g t cs -> T W) : On w P T :=
 ⟨fun b => b = g, fun b hb => by subst hb; exact ⟨hP, h.lt⟩, fun W hW => ht W ((hW g rfl).trans h)⟩
end
theorem cells_agree {w W : World} {A : Option Addr} {xs : List Value} (h : Cells w A xs) (ha : ∀ b, b < w.heap.size -> W.heap[b]? = w.heap[b]?) : Cells W A xs := by
 rcases h with rfl | ⟨b, off, rfl, h⟩
 ·exact .inl rfl
 ·refine .inr ⟨b, off, rfl, fun j u hj => ?_⟩
  have h1 := h j u hj
  have hlt := World.block_lt_of_cell? w _ h1
  exact (World.cell?_of_block (a := ⟨b, off + j, none⟩) (ha b hlt)).trans h1
theorem u32s_agree {w W : World} {v : Value} {l : List Nat} (h : U32s w v l) (ha : ∀ b, b < w.heap.size -> W.heap[b]? = w.heap[b]?) : U32s W v l := by
 obtain ⟨h1, A, cap, h2, h3, h4, h5, h6⟩ := h
 exact ⟨h1, A, cap, h2, h3, h4, h5, cells_agree h6 ha⟩
theorem rawI_agree {w W : World} {v : Value} {z : Int} {k : Nat} (h : RawI w v z k) (ha : ∀ b, b < w.heap.size -> W.heap[b]? = w.heap[b]?) : RawI W v z k := by
 obtain ⟨n, A, m, c, l, e, h, e', hk⟩ := h; exact ⟨n, A, m, c, l, e, u32s_agree h ha, e', hk⟩
theorem rawR_agree {w W : World} {v : Value} {q : Rat} {k : Nat} (h : RawR w v q k) (ha : ∀ b, b < w.heap.size -> W.heap[b]? = w.heap[b]?) : RawR W v q k := by
 obtain ⟨a, A, n, c, b, A', n', c', x, y, e, h1, h2, h3⟩ := h; exact ⟨a, A, n, c, b, A', n', c', x, y, e, rawI_agree h1 ha, rawI_agree h2 ha, h3⟩
abbrev Elem := World -> Value -> Rat -> Prop
def ERaw (k : Nat) : Elem := fun w v q => RawR w v q k
def EOwn : Elem := fun w v q => OwnR w 0 v q
def Rats (E : Elem) (w : World) (v : Value) (l : List Rat) : Prop :=
 ∃ A c, v = .slice A l.length c /\ l.length <= c /\ c <= maxLen /\ ∀ i q, l[i]? = some q -> ∃ b off s A1 n1 c1 s' A2 n2 c2, A = some ⟨b, off, none⟩ /\ w.cell? ⟨b, off + i * 4, none⟩ = some (.bool s) /\ w.cell? ⟨b, off + i * 4 + 1, none⟩ = some (.slice A1 n1 c1) /\
   w.cell? ⟨b, off + i * 4 + 2, none⟩ = some (.bool s') /\ w.cell? ⟨b, off + i * 4 + 3, none⟩ = some (.slice A2 n2 c2) /\ E w (.agg #[.bool s, .slice A1 n1 c1, .bool s', .slice A2 n2 c2]) q
theorem Rats.later {E : Elem} (hE : ∀ w w' v q, E w v q -> Later w w' -> E w' v q) {w w' : World} {v : Value} {l : List Rat} (h : Rats E w v l) (hb : Later w w') : Rats E w' v l := by
 obtain ⟨A, c, e, h1, h2, h3⟩ := h
 refine ⟨A, c, e, h1, h2, fun i q hi => ?_⟩
 obtain ⟨b, off, s, A1, n1, c1, s', A2, n2, c2, ha, x1, x2, x3, x4, hE'⟩ := h3 i q hi
 exact ⟨b, off, s, A1, n1, c1, s', A2, n2, c2, ha, Later.cell hb x1, Later.cell hb x2, Later.cell hb x3, Later.cell hb x4, hE _ _ _ _ hE' hb⟩
theorem ERaw.later {k : Nat} (w w' : World) (v : Value) (q : Rat) (h : ERaw k w v q) (hb : Later w w') : ERaw k w' v q := RawR.later h hb
theorem EOwn.later (w w' : World) (v : Value) (q : Rat) (h : EOwn w v q) (hb : Later w w') : EOwn w' v q := OwnR.later h hb
theorem Rats.map {E E' : Elem} {w : World} {v : Value} {l : List Rat} (h : Rats E w v l) (hE : ∀ v q, q ∈ l -> E w v q -> E' w v q) : Rats E' w v l := by
 obtain ⟨A, c, e, h1, h2, h3⟩ := h
 refine ⟨A, c, e, h1, h2, fun i q hi => ?_⟩
 obtain ⟨b, off, s, A1, n1, c1, s', A2, n2, c2, ha, x1, x2, x3, x4, hE'⟩ := h3 i q hi
 exact ⟨b, off, s, A1, n1, c1, s', A2, n2, c2, ha, x1, x2, x3, x4, hE _ _ (List.mem_of_getElem? hi) hE'⟩
def OutRats (E : Elem) (w : World) (P : Nat -> Prop) (lo : Nat) (v : Value) (l : List Rat) : Prop :=
 ∃ es : List (Bool × Value × Bool × Value), es.length = l.length /\ w.ownsRow lo 67 4 v l.length (es.flatMap fun (e : Bool × Value × Bool × Value) => [.bool e.1, e.2.1, .bool e.2.2.1, e.2.2.2]) /\
   (∀ e ∈ es, (∃ A n c, e.2.1 = .slice A n c) /\ (∃ A n c, e.2.2.2 = .slice A n c)) /\
   On w (fun b => P b /\ some b ≠ v.ownBlock) (fun W => ∀ (i : Nat) (e : Bool × Value × Bool × Value) (q : Rat), es[i]? = some e -> l[i]? = some q -> E W (.agg #[.bool e.1, e.2.1, .bool e.2.2.1, e.2.2.2]) q)
theorem OutRats.nil (E : Elem) (w : World) (P : Nat -> Prop) (lo : Nat) : OutRats E w P lo (.slice none 0 0) [] :=
 ⟨[], rfl, World.ownsRow_nil w lo _ 4, by simp, On.pure fun W i e q hi => by simp at hi⟩
theorem OutRats.mono {E : Elem} {w : World} {P P' : Nat -> Prop} {lo : Nat} {v : Value} {l : List Rat} (h : OutRats E w P lo v l) (hp : ∀ b, P b -> b < w.heap.size -> P' b) : OutRats E w P' lo v l := by
 obtain ⟨es, h1, h2, h3, h4⟩ := h
 exact ⟨es, h1, h2, h3, h4.mono fun b hb hlt => ⟨hp b hb.1 hlt, hb.2⟩⟩
theorem ownsRow_later {w w' : World} {B size n : Nat} {e : TypeId} {v : Value} {xs : List Value} (h : w.ownsRow B e size v n xs) (hb : Later w w') : w'.ownsRow B e size v n xs := by
 obtain ⟨h2, h3⟩ := h
 refine ⟨h2, ?_⟩
 rcases h3 with h3 | ⟨g, cap, cur, rfl, hb', hg, r⟩
 ·exact .inl h3
 ·exact .inr ⟨g, cap, cur, rfl, hb', Row.later (cs := cur.toList) hg hb, r⟩
theorem OutRats.later {E : Elem} {w w' : World} {P : Nat -> Prop} {lo : Nat} {v : Value} {l : List Rat} (h : OutRats E w P lo v l) (hb : Later w w') : OutRats E w' P lo v l := by
 obtain ⟨es, h1, h2, h3, h4⟩ := h
 exact ⟨es, h1, ownsRow_later h2 hb, h3, h4.later hb⟩
theorem OutRats.only {E : Elem} {w w' : World} {P : Nat -> Prop} {lo g : Nat} {v : Value} {l : List Rat} (h : OutRats E w P lo v l) (o : Only g w w') (hg : g < lo) (hP : ¬ P g) : OutRats E w' P lo v l := by
 obtain ⟨es, h1, h2, h3, h4⟩ := h
 exact ⟨es, h1, ownsRow_only h2 o hg, h3, h4.only o fun h => hP h.1⟩
theorem OutRats.snoc {E : Elem} {w W : World} {P : Nat -> Prop} {lo : Nat} {v v' : Value} {l : List Rat} {q : Rat} {s s' : Bool} {A A' : Option Addr} {n c n' c' : Nat}
 (es : List (Bool × Value × Bool × Value)) (h1 : es.length = l.length) (h3 : ∀ e ∈ es, (∃ A n c, e.2.1 = .slice A n c) /\ (∃ A n c, e.2.2.2 = .slice A n c))
 (h4 : On w (fun b => P b /\ some b ≠ v.ownBlock) (fun W => ∀ (i : Nat) (e : Bool × Value × Bool × Value) (q : Rat), es[i]? = some e -> l[i]? = some q -> E W (.agg #[.bool e.1, e.2.1, .bool e.2.2.1, e.2.2.2]) q))
 (hown : W.ownsRow lo 67 4 v' (l.length + 1) ((es.flatMap fun (e : Bool × Value × Bool × Value) => [.bool e.1, e.2.1, .bool e.2.2.1, e.2.2.2]) ++ [.bool s, .slice A n c, .bool s', .slice A' n' c']))
 (hg : w.grownBy W v.ownBlock) (hblk : v'.ownBlock = v.ownBlock ∨ v'.ownBlock = some w.heap.size)
 (hx : On w (fun b => P b /\ some b ≠ v.ownBlock) (fun W => E W (.agg #[.bool s, .slice A n c, .bool s', .slice A' n' c']) q)) : OutRats E W P lo v' (l ++ [q]) := by
 refine ⟨es ++ [(s, .slice A n c, s', .slice A' n' c')], by simp [h1], by rw [List.length_append, List.flatMap_append]; exact hown, ?_, ?_⟩
 ·intro e he
  rcases List.mem_append.1 he with he | he
  ·exact h3 e he
  ·simp at he; subst he; exact ⟨⟨_, _, _, rfl⟩, ⟨_, _, _, rfl⟩⟩
 ·have h5 := (h4.and hx).grown hg (fun b hb _ => hb.2)
  have h6 : On W (fun b => P b /\ some b ≠ v'.ownBlock) _ := (by
   obtain ⟨F, f1, f2⟩ := h4.and hx
   refine ⟨F, fun b hb => ⟨⟨(f1 b hb).1.1, ?_⟩, Nat.lt_of_lt_of_le (f1 b hb).2 hg.size⟩, fun W' hW' => f2 W' fun b hb => (hW' b hb).trans (hg.block b (f1 b hb).2 (f1 b hb).1.2)⟩
   rcases hblk with e | e
   ·rw [e]; exact (f1 b hb).1.2
   ·rw [e]; intro e2; injection e2 with e2; have := (f1 b hb).2; omega)
  refine h6.map fun W' ⟨k1, k2⟩ i e q' hi hq => ?_
  by_cases hlt : i < es.length
  ·rw [List.getElem?_append_left hlt] at hi
   rw [List.getElem?_append_left (by omega)] at hq
   exact k1 i e q' hi hq
  ·by_cases he : i = es.length
   ·subst he
    rw [List.getElem?_append_right (Nat.le_refl _), Nat.sub_self] at hi
    rw [h1, List.getElem?_append_right (Nat.le_refl _), Nat.sub_self] at hq
    simp at hi hq
    subst hi hq
    exact k2
   ·rw [List.getElem?_eq_none (by simp; omega)] at hi; cases hi
theorem flat4_get (es : List (Bool × Value × Bool × Value)) (i j : Nat) (hj : j < 4) (e : Bool × Value × Bool × Value) (hi : es[i]? = some e) :
 (es.flatMap fun e => [Value.bool e.1, e.2.1, Value.bool e.2.2.1, e.2.2.2])[i * 4 + j]? = [Value.bool e.1, e.2.1, Value.bool e.2.2.1, e.2.2.2][j]? := by
 induction es generalizing i with
 | nil => simp at hi
 | cons a es ih =>
   rw [List.flatMap_cons]
   cases i with
   | zero =>
     simp at hi; subst hi
     rw [Nat.zero_mul, Nat.zero_add, List.getElem?_append_left (by simpa using hj)]
   | succ i =>
     have h1 := ih i (by simpa using hi)
     rw [List.getElem?_append_right (by simp; omega)]
     rw [<- h1]; congr 1; simp; omega
theorem OutRats.rats {E : Elem} {w : World} {P : Nat -> Prop} {lo : Nat} {v : Value} {l : List Rat} (h : OutRats E w P lo v l) : On w (fun b => P b ∨ lo <= b) (fun W => Rats E W v l) := by
 obtain ⟨es, h1, ⟨h2, h2'⟩, h3, h4⟩ := h
 rcases h2' with ⟨rfl, h0⟩ | ⟨g, cap, cur, rfl, hb, hg, hn, hm, hs, ht⟩
 ·have : l = [] := List.eq_nil_of_length_eq_zero h0
  subst this
  exact On.pure fun W => ⟨none, 0, rfl, by simp, by simp, fun i q hi => by simp at hi⟩
 ·have hrow : Row w g 67 cur.toList := by unfold Row; simpa using hg
  have h5 : On w (fun b => P b ∨ lo <= b) (fun W => Row W g 67 cur.toList) := On.of_row hrow (.inr hb) fun W hW => hW
  refine (h5.and (h4.mono fun b hb _ => .inl hb.1)).map fun W ⟨hr, he⟩ => ?_
  refine ⟨some ⟨g, 0, none⟩, cap, rfl, hn, hm, fun i q hi => ?_⟩
  have hil : i < es.length := by rw [h1]; exact (List.getElem?_eq_some_iff.1 hi).1
  obtain ⟨e, hee⟩ : ∃ e, es[i]? = some e := ⟨es[i], List.getElem?_eq_getElem hil⟩
  obtain ⟨⟨A1, n1, c1, e1⟩, ⟨A2, n2, c2, e2⟩⟩ := h3 e (List.mem_of_getElem? hee)
  have hcell : ∀ j, j < 4 -> ∀ u, [Value.bool e.1, e.2.1, Value.bool e.2.2.1, e.2.2.2][j]? = some u -> W.cell? ⟨g, 0 + i * 4 + j, none⟩ = some u := fun j hj u hu => by
   rw [Nat.zero_add]
   refine hr.cell ?_
   rw [<- flat4_get es i j hj e hee, <- ht, List.getElem?_take] at hu
   split at hu
   ·exact hu
   ·cases hu
  refine ⟨g, 0, e.1, A1, n1, c1, e.2.2.1, A2, n2, c2, rfl, hcell 0 (by omega) _ rfl, hcell 1 (by omega) _ (by simp [e1]), hcell 2 (by omega) _ rfl, hcell 3 (by omega) _ (by simp [e2]), ?_⟩
  have := he i e q hee hi
  rw [e1, e2] at this; exact this
def OwnRats (w : World) (B : Nat) (v : Value) (l : List Rat) : Prop := On w (fun b => B <= b) (fun W => Rats EOwn W v l)
theorem OwnRats.later {w w' : World} {B : Nat} {v : Value} {l : List Rat} (h : OwnRats w B v l) (hb : Later w w') : OwnRats w' B v l := On.later h hb
theorem OwnRats.weaken {w : World} {B C : Nat} {v : Value} {l : List Rat} (h : OwnRats w B v l) (hC : C <= B) : OwnRats w C v l := On.mono h fun b hb _ => Nat.le_trans hC hb
theorem OwnRats.only {w w' : World} {B g : Nat} {v : Value} {l : List Rat} (h : OwnRats w B v l) (o : Only g w w') (hg : g < B) : OwnRats w' B v l := On.only h o (by omega)
end Go.Proofs.YtncbebfhakcgdaaGreat
namespace Go.Proofs.YtncbebfhakcgdaaGreat
open Go.RowKit
theorem Later.grownBy {w w' : World} (h : Later w w') (row : Option Nat) : w.grownBy w' row := ⟨h.os, h.tape, h.output, h.size, fun b hb _ => h.block b hb⟩
theorem OutRats.lt {E : Elem} {w : World} {P : Nat -> Prop} {lo : Nat} {v : Value} {l : List Rat} (h : OutRats E w P lo v l) : ∀ k, v.ownBlock = some k -> lo <= k /\ k < w.heap.size := by
 obtain ⟨es, h1, h2, -⟩ := h; exact World.ownsRow.lt h2
section
variable {w : World} {o : Oper} {a : Act} {K : Act -> World -> Prop} {Q : Exit -> Act -> World -> Prop}
theorem wp_append_own_ {P : Program} (s x : Operand) (t : TypeId)
 (ho : o.op = .call { callee := .builtin .append, args := #[s, x], argTypes := #[t, t] })
 (base : Nat) (e : TypeId) (z : Value) (size bytes : Nat) (ht : P.underlying t = some (.slice e)) (hinfo : (P.info? e).map (fun i => (i.zero, i.size, i.bytes)) = some (some z, size, bytes))
 (hzs : z.cells.size = size) (hsz : 0 < size) (hby : bytes <= 1024)
 (v : Value) (n : Nat) (xs : List Value) (hs : a.eval s = v) (hown : w.ownsRow base e size v n xs)
 (ad : Addr) (m c : Nat) (news : List Value) (hx : a.eval x = .slice (some ad) m c) (hl : news.length = m * size) (hnews : ∀ j u, news[j]? = some u -> w.cell? (ad.add j) = some u) (h1 : ∀ u ∈ news, u.oneCell' = true)
 (hnm : n + m <= 4000000000) (hbase : base <= w.heap.size)
 (h : ∀ v' w', w'.ownsRow base e size v' (n + m) (xs ++ news) -> w.grownBy w' v.ownBlock -> (v'.ownBlock = v.ownBlock ∨ v'.ownBlock = some w.heap.size) -> K (a.put o.dst v') w') : o.wp P a w K Q := by
 obtain ⟨i, hi, hz0, hz1, hz2⟩ := info_parts hinfo
 have h5 : (n + m) * bytes <= 4000000000 * 1024 := Nat.mul_le_mul hnm hby
 obtain ⟨v', w', hr, h2, h3, h4, h5⟩ := run_append_own_at (P := P) w base t o.type e i z size bytes ht hi hz0 hz1 hz2 hzs hsz v n xs hown ad m c news hl hnews h1 (by unfold maxLen; omega) (by omega) hbase
 unfold Oper.wp execOp
 simp only [ho, resolve, invoke, builtin, Sem.run_bind, Sem.run_pure, Result.andThen_ok, List.map_toArray, List.map_cons, List.map_nil, hs, hx, hr]
 exact h v' w' h2 h3 h5
end
theorem Rats.at_ {E : Elem} {w : World} {A : Option Addr} {n c : Nat} {l : List Rat} (h : Rats E w (.slice A n c) l) {i : Nat} {q : Rat} (hi : l[i]? = some q) :
 ∃ b off s A1 n1 c1 s' A2 n2 c2, A = some ⟨b, off, none⟩ /\ w.cell? ⟨b, off + i * 4, none⟩ = some (.bool s) /\ w.cell? ⟨b, off + i * 4 + 1, none⟩ = some (.slice A1 n1 c1) /\
 w.cell? ⟨b, off + i * 4 + 2, none⟩ = some (.bool s') /\ w.cell? ⟨b, off + i * 4 + 3, none⟩ = some (.slice A2 n2 c2) /\ E w (.agg #[.bool s, .slice A1 n1 c1, .bool s', .slice A2 n2 c2]) q := by
 obtain ⟨A', c', e, -, -, h3⟩ := h
 injection e with e1 e2 e3
 subst e1
 exact h3 i q hi
theorem Rats.form {E : Elem} {w : World} {v : Value} {l : List Rat} (h : Rats E w v l) : ∃ A n c, v = .slice A n c /\ n = l.length /\ n <= c /\ c <= maxLen /\ Rats E w (.slice A n c) l := by
 obtain ⟨A, c, rfl, h1, h2, h3⟩ := id h
 exact ⟨A, _, c, rfl, rfl, h1, h2, h⟩
end Go.Proofs.YtncbebfhakcgdaaGreat
namespace Go.Proofs.YtncbebfhakcgdaaGreat
open Go.RowKit Go.Shelf
attribute [local go_sem ↓] Go.wp_at_zero Go.wp_at_succ
theorem rawR_zero (w : World) (k : Nat) : RawR w (.agg #[.bool false, .slice none 0 0, .bool false, .slice none 0 0]) 0 k :=
 ⟨_, _, _, _, _, _, _, _, 0, 0, rfl, rawI_zero w k, rawI_zero w k, by rw [ratOf_not (by omega)]⟩
end Go.Proofs.YtncbebfhakcgdaaGreat
namespace Go.Proofs.YtncbebfhakcgdaaGreat
open Go.RowKit Go.Shelf
attribute [local go_sem ↓] Go.wp_at_zero Go.wp_at_succ
end Go.Proofs.YtncbebfhakcgdaaGreat
namespace Go.Proofs.YtncbebfhakcgdaaGreat
open Go.RowKit Go.Shelf
attribute [local go_sem ↓] Go.wp_at_zero Go.wp_at_succ
theorem Rats.sized {k : Nat} {w : World} {v : Value} {l : List Rat} (h : Rats (ERaw k) w v l) : ∀ q ∈ l, Sized q (k+1) := by
 intro q hq
 obtain ⟨i, hi⟩ := List.getElem?_of_mem hq
 obtain ⟨A, c, e, -, -, h3⟩ := h
 obtain ⟨b, off, s, A1, n1, c1, s', A2, n2, c2, -, -, -, -, -, hE⟩ := h3 i q hi
 exact RawR.sized hE
end Go.Proofs.YtncbebfhakcgdaaGreat
namespace Go.Proofs.YtncbebfhakcgdaaGreat
open Go.RowKit Go.Shelf
attribute [local go_sem ↓] Go.wp_at_zero Go.wp_at_succ
end Go.Proofs.YtncbebfhakcgdaaGreat
