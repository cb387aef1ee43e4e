/- The reference's fractions: Plain, Of, cross. -/
import Derived.Test.YtncbebfhakcgdaaGreatC7
import Derived.Test.YtncbebfhakcgdaaGreatC5
import Derived.Test.YtncbebfhakcgdaaGreatC4
set_option linter.unusedVariables false
set_option linter.unusedSimpArgs false
set_option maxRecDepth 100000
namespace Go.Proofs.YtncbebfhakcgdaaGreat
open Go.RowKit Go.Shelf
attribute [local go_sem ↓] Go.wp_at_zero Go.wp_at_succ
set_option maxHeartbeats 4000000 in
theorem qplain_calls (w : World) (v : Value) (q : Rat) (k : Nat) (h : RawR w v q k) (hk : k <= 180000000) :
 Calls Tryz.prog 119 #[v] w (Ret w fun w' v => OwnR w' w.heap.size v q) := by
 obtain ⟨sa, A1, n1, c1, sa', A1', n1', c1', x, y, rfl, hx, hy, hq⟩ := h
 have HX := hide hx; have HY := hide hy; have HQ := hide hq
 obtain ⟨W0, hW0⟩ : ∃ W0, W0 = ((w.alloc (Obj.cells #[Value.bool sa, Value.slice A1 n1 c1, Value.bool sa', Value.slice A1' n1' c1'] 67)).alloc (Obj.cells #[Value.bool false, Value.slice none 0 0, Value.bool false, Value.slice none 0 0] 67)) := ⟨_, rfl⟩
 obtain ⟨hb0, r1, r2, hsz⟩ := boxes2 w [.bool sa, .slice A1 n1 c1, .bool sa', .slice A1' n1' c1'] [.bool false, .slice none 0 0, .bool false, .slice none 0 0] 67 67 hW0
 have R1 := hide r1; have R2 := hide r2; have B0 := hide hb0; have HW0 := hide hW0
 clear hq r1 r2 hb0 hW0
 by_cases hpos : 0 < y
 ·have ht : decide (0 < y) = true := by simpa using hpos
  have HT := hide ht
  obtain ⟨neg, A0, n0, c0, l, e, hu, hz, hl⟩ := hx
  injection e with e; injection e with e; injection e with e1 e; injection e with e2 e
  injection e1 with e1; injection e2 with e2 e3 e4
  subst e1 e2 e3 e4
  obtain ⟨neg, A0, n0, c0, l', e, hu', hz', hl'⟩ := hy
  injection e with e; injection e with e; injection e with e1 e; injection e with e2 e
  injection e1 with e1; injection e2 with e2 e3 e4
  subst e1 e2 e3 e4
  have hxa : x.natAbs = val l := by rw [hz, natAbs_sgn]
  have hya : y.natAbs = val l' := by rw [hz', natAbs_sgn]
  obtain ⟨g, hg⟩ : ∃ g, g = Nat.gcd (val l) (val l') := ⟨_, rfl⟩
  have hq2 : q = mkRat x y.toNat := by rw [HQ.out]; unfold ratOf; rw [if_pos hpos]
  obtain ⟨z1, z2, hgp⟩ := by_law hpos hq2 (g := g) (by rw [hxa, hya]; exact hg)
  have z3 : sgn sa (val l / g) = q.num := by rw [exact_sgn hz g]; exact z1
  have z4 : val l' / g = q.den := by
   rw [show decide (y < 0) = false by simp; omega] at z2
   rw [hya] at z2
   have : ((val l' / g : Nat) : Int) = q.den := z2
   omega
  have hgl : (limbs g).length <= k := by
   refine Nat.le_trans (length_limbs_mono (b := val l') ?_) (Nat.le_trans (length_limbs_val hu'.1) hl')
   rw [hg]; exact Nat.gcd_le_right _ (by omega)
  have hql : (limbs (val l / g)).length <= k := Nat.le_trans (length_limbs_mono (Nat.div_le_self _ _)) (Nat.le_trans (length_limbs_val hu.1) hl)
  have HU := hide hu; have HU' := hide hu'; have Z3 := hide z3; have Z4 := hide z4; have HG := hide hg; have HQL := hide hql
  clear hz hz' hxa hya hq2 z1 z2 z3 z4 hu hu' ht hg hql e HQ HX
  go_enter Tryz.func119, Tryz.ntmps119
  go_wp2_with fail
  rw [<- HW0.out]
  refine (qmay_calls _ sa _ _ _ _ sa' y k (HY.out.later B0.out) ⟨_, _, _, rfl⟩ (by omega) true HT.out).mono ?_
  rintro e w1 ⟨rfl, b1⟩
  obtain ⟨d1, d2, d3, d4, d5, d6, d7, d8⟩ := row_cells4 (R1.out.later b1)
  have k1 := B0.out.trans b1
  go_wp2_with fail
  refine (rngcd_calls _ _ _ l l' (HU.out.later k1) (HU'.out.later k1) (by omega) (by omega)).mono ?_
  rintro e w2 ⟨v2, rfl, o2, b2⟩
  rw [<- HG.out] at o2
  obtain ⟨P2, q2, e2, rfl, o2, -⟩ := o2.open_
  have O2 := hide o2; clear o2
  have k2 := k1.trans b2
  clear d1 d2 d3 d4 d5 d6 d7 d8; obtain ⟨d1, d2, d3, d4, d5, d6, d7, d8⟩ := row_cells4 (R1.out.later (b1.trans b2))
  go_wp2_with fail
  refine (rndiv_calls _ _ _ l (limbs g) (HU.out.later k2) O2.out.reads (by omega) (by omega) (by rw [val_limbs]; exact hgp)).mono ?_
  rintro e w3 ⟨v3, r3, ok3, rfl, ⟨o3, -, rfl⟩, b3⟩
  rw [val_limbs] at o3
  obtain ⟨P3, q3, e3, rfl, o3, -⟩ := o3.open_
  have O3 := hide o3; clear o3
  have k3 := k2.trans b3
  clear d1 d2 d3 d4 d5 d6 d7 d8; obtain ⟨d1, d2, d3, d4, d5, d6, d7, d8⟩ := row_cells4 (R1.out.later ((b1.trans b2).trans b3))
  go_wp2_with fail
  refine (rndiv_calls _ _ _ l' (limbs g) (HU'.out.later k3) (O2.out.reads.later b3) (by omega) (by omega) (by rw [val_limbs]; exact hgp)).mono ?_
  rintro e w4 ⟨v4, r4, ok4, rfl, ⟨o4, -, rfl⟩, b4⟩
  rw [val_limbs, Z4.out] at o4
  obtain ⟨P4, q4, e4, rfl, o4, -⟩ := o4.open_
  have O4 := hide o4; clear o4
  have k4 := k3.trans b4
  clear d1 d2 d3 d4 d5 d6 d7 d8; obtain ⟨d1, d2, d3, d4, d5, d6, d7, d8⟩ := row_cells4 (R1.out.later (((b1.trans b2).trans b3).trans b4))
  go_wp2_with fail
  refine (zplain_calls _ _ (sgn sa (val l / g)) k (rawI_mk (O3.out.later b4) HQL.out) (by omega)).mono ?_
  rintro e w5 ⟨v5, rfl, o5, b5⟩
  rw [Z3.out] at o5
  obtain ⟨s5, P5, q5, e5, rfl, o5⟩ := o5.open_; have O5 := hide o5; clear o5
  have k5 := k4.trans b5
  have HR := hide (R2.out.later ((((b1.trans b2).trans b3).trans b4).trans b5))
  have hs1 := b1.size; have hs2 := b2.size; have hs3 := b3.size; have hs4 := b4.size
  clear d1 d2 d3 d4 d5 d6 d7 d8; obtain ⟨d1, d2, d3, d4, d5, d6, d7, d8⟩ := row_cells4 (HR.out)
  go_wp2_with fail
  refine bodyPost_ret (results_rat rfl rfl (HR.out.four _ _ _ _)) rfl ?_
  have oo := Only.four (w.heap.size + 1) w5 (.bool s5) (.slice P5 q5 e5) (.bool false) (.slice P4 q4 e4)
  refine ⟨_, rfl, OwnR.weaken (OwnR.mk_ (B := w.heap.size + 2) ?_ ?_) (by omega), k5.only oo (by omega)⟩
  ·exact (O5.out.weaken (by omega)).only oo (by omega)
  ·exact ((O4.out.later b5).weaken (by omega)).only oo (by omega)
 ·have hq : q = 0 := by rw [HQ.out, ratOf_not hpos]
  subst hq
  have ht : decide (0 < y) = false := by simpa using hpos
  have HT := hide ht
  clear ht
  go_enter Tryz.func119, Tryz.ntmps119
  go_wp2_with fail
  rw [<- HW0.out]
  refine (qmay_calls _ sa _ _ _ _ sa' y k (HY.out.later B0.out) ⟨_, _, _, rfl⟩ (by omega) false HT.out).mono ?_
  rintro e w1 ⟨rfl, b1⟩
  go_wp2_with fail
  refine (qzero_calls _).mono ?_
  rintro e w2 ⟨v2, rfl, o2, b2⟩
  obtain ⟨s2, P2, q2, e2, P2', q2', e2', rfl, o2⟩ := o2.open_; have O2 := hide o2; clear o2
  have hb := b1.trans b2
  obtain ⟨d1, d2, d3, d4, d5, d6, d7, d8⟩ := row_cells4 (R2.out.later hb)
  have hL := B0.out.trans hb
  have hs1 := b1.size
  have HR := hide (R2.out.later hb)
  go_wp2_with fail
  refine bodyPost_ret (results_rat rfl rfl (HR.out.four _ _ _ _)) rfl ?_
  have oo := Only.four (w.heap.size + 1) w2 (.bool s2) (.slice P2 q2 e2) (.bool false) (.slice P2' q2' e2')
  exact ⟨_, rfl, (O2.out.only oo (by omega)).weaken (by omega), hL.only oo (by omega)⟩
end Go.Proofs.YtncbebfhakcgdaaGreat
namespace Go.Proofs.YtncbebfhakcgdaaGreat
open Go.RowKit Go.Shelf
attribute [local go_sem ↓] Go.wp_at_zero Go.wp_at_succ
theorem rawR_mk {w : World} {s s' : Bool} {A A' : Option Addr} {n c n' c' k : Nat} {x y : Int} {q : Rat} (h : RawI w (.agg #[.bool s, .slice A n c]) x k) (h' : RawI w (.agg #[.bool s', .slice A' n' c']) y k) (hq : q = ratOf x y) :
 RawR w (.agg #[.bool s, .slice A n c, .bool s', .slice A' n' c']) q k := ⟨_, _, _, _, _, _, _, _, x, y, rfl, h, h', hq⟩
end Go.Proofs.YtncbebfhakcgdaaGreat
namespace Go.Proofs.YtncbebfhakcgdaaGreat
open Go.RowKit Go.Shelf
attribute [local go_sem ↓] Go.wp_at_zero Go.wp_at_succ
theorem of_law (a b : Int) (hb : b ≠ 0) : Rat.divInt a b = ratOf (sgn (decide (a < 0) != decide (b < 0)) a.natAbs) (sgn false b.natAbs) := by
 have hp : 0 < sgn false b.natAbs := by simp [sgn]; omega
 rw [ratOf_pos hp, Rat.divInt_eq_div, Rat.divInt_eq_div]
 have hA : (sgn false b.natAbs : Int) = if b < 0 then -b else b := by simp [sgn]; split <;> omega
 have hB : sgn (decide (a < 0) != decide (b < 0)) a.natAbs = if b < 0 then -a else a := by
  unfold sgn
  by_cases h1 : a < 0 <;> by_cases h2 : b < 0 <;> simp [h1, h2] <;> omega
 rw [hA, hB]
 have hb' : (b : Rat) ≠ 0 := by simpa using hb
 split
 ·rw [Rat.intCast_neg, Rat.intCast_neg]; grind
 ·rfl
set_option maxHeartbeats 4000000 in
theorem qof_calls (w : World) (a b : Int) (ha1 : -9223372036854775808 <= a) (ha2 : a < 9223372036854775808) (hb1 : -9223372036854775808 <= b) (hb2 : b < 9223372036854775808) (hb0 : b ≠ 0) (q : Rat) (hq : Rat.divInt a b = q) :
 Calls Tryz.prog 92 #[.int .i64 a, .int .i64 b] w (Ret2 w fun w' v o => OwnR w' w.heap.size v q /\ o = .bool true) := by
 have hql := of_law a b hb0
 rw [hq] at hql
 have hla : (limbs a.natAbs).length <= 3 := length_limbs_le (by omega)
 have hlb : (limbs b.natAbs).length <= 3 := length_limbs_le (by omega)
 have t0 : (b == 0) = false := by simpa using hb0
 have HQL := hide hql
 obtain ⟨W0, hW0⟩ : ∃ W0, W0 = w.alloc (Obj.cells #[Value.bool false, Value.slice none 0 0, Value.bool false, Value.slice none 0 0] 67) := ⟨_, rfl⟩
 obtain ⟨hb0', r1, hsz⟩ := boxes1 w [.bool false, .slice none 0 0, .bool false, .slice none 0 0] 67 hW0
 have R1 := hide r1; have B0 := hide hb0'; have HW0 := hide hW0
 clear hq hql hb0 r1 hb0' hW0
 go_enter Tryz.func92, Tryz.ntmps92
 go_wp2_with fail
 rw [<- HW0.out]
 refine (zof_calls _ a ha1 ha2).mono ?_
 rintro e w1 ⟨v1, rfl, o1, b1⟩
 obtain ⟨s1, P1, q1, e1, rfl, o1⟩ := o1.open_; have O1 := hide o1; clear o1
 have hs1 := b1.size
 go_wp2_with fail
 obtain ⟨V1, hV1⟩ : ∃ V, V = w1.alloc (Obj.cells #[Value.bool s1, Value.slice P1 q1 e1] 65) := ⟨_, rfl⟩
 have c1' : Later w1 V1 := by rw [hV1]; exact (Later.refl w1).alloc _
 have x1 : Row V1 w1.heap.size 65 [.bool s1, .slice P1 q1 e1] := by rw [hV1]; exact Row.new w1 _ _
 have hsV1 : V1.heap.size = w1.heap.size + 1 := by rw [hV1]; simp
 rw [<- hV1]
 have X1 := hide x1; have C1 := hide c1'
 clear hV1 x1 c1'
 refine (zof_calls _ b hb1 hb2).mono ?_
 rintro e w2 ⟨v2, rfl, o2, b2⟩
 obtain ⟨s2, P2, q2, e2, rfl, o2⟩ := o2.open_; have O2 := hide o2; clear o2
 have hs2 := b2.size
 obtain ⟨V2, hV2⟩ : ∃ V, V = w2.alloc (Obj.cells #[Value.bool s2, Value.slice P2 q2 e2] 65) := ⟨_, rfl⟩
 have c2' : Later w2 V2 := by rw [hV2]; exact (Later.refl w2).alloc _
 have x2 : Row V2 w2.heap.size 65 [.bool s2, .slice P2 q2 e2] := by rw [hV2]; exact Row.new w2 _ _
 have hsV2 : V2.heap.size = w2.heap.size + 1 := by rw [hV2]; simp
 have x1 := X1.out.later (b2.trans c2')
 obtain ⟨d1, d2, d3, d4⟩ := row_cells2 x1
 obtain ⟨d5, d6, d7, d8⟩ := row_cells2 x2
 rw [hV2] at d1 d2 d3 d4 d5 d6 d7 d8
 have HV2 := hide hV2
 have I1 := hide ((O1.out.later C1.out).later (b2.trans c2')); have I2 := hide (O2.out.later c2')
 have k2 := hide (((B0.out.trans b1).trans C1.out).trans (b2.trans c2'))
 have HR := hide (R1.out.later ((b1.trans C1.out).trans (b2.trans c2')))
 have hne : (!(s1 == s2)) = (decide (a < 0) != decide (b < 0)) := by rw [O1.out.sign, O2.out.sign]; rfl
 have HNE := hide hne
 clear x1 x2 c2' hne
 go_wp2_with fail
 rw [<- HV2.out]
 have hraw : RawR V2 (.agg #[.bool (!(s1 == s2)), .slice P1 q1 e1, .bool false, .slice P2 q2 e2]) q 3 := rawR_mk (rawI_mk I1.out.own hla) (rawI_mk I2.out.own hlb) (by rw [HNE.out]; exact HQL.out)
 refine (qplain_calls _ _ q 3 hraw (by omega)).mono ?_
 rintro e w3 ⟨v3, rfl, o3, b3⟩
 obtain ⟨s3, P3, q3, e3, P3', q3', e3', rfl, o3⟩ := o3.open_; have O3 := hide o3; clear o3
 clear d1 d2 d3 d4 d5 d6 d7 d8 hraw
 obtain ⟨f1, f2, f3, f4, f5, f6, f7, f8⟩ := row_cells4 (HR.out.later b3)
 have HR3 := hide (HR.out.later b3)
 have hL := k2.out.trans b3
 clear f1 f2 f3 f4 f5 f6 f7 f8
 obtain ⟨f1, f2, f3, f4, f5, f6, f7, f8⟩ := row_cells4 HR3.out
 go_wp2_with fail
 refine bodyPost_ret (results_rat_bool rfl rfl rfl (HR3.out.four _ _ _ _)) rfl ?_
 have oo := Only.four w.heap.size w3 (.bool s3) (.slice P3 q3 e3) (.bool false) (.slice P3' q3' e3')
 exact ⟨_, _, rfl, ⟨(O3.out.only oo (by omega)).weaken (by omega), rfl⟩, hL.only oo (by omega)⟩
end Go.Proofs.YtncbebfhakcgdaaGreat
namespace Go.Proofs.YtncbebfhakcgdaaGreat
open Go.RowKit
def On (w : World) (P : Nat -> Prop) (T : World -> Prop) : Prop := ∃ F : Nat -> Prop, (∀ b, F b -> P b /\ b < w.heap.size) /\ ∀ W : World, (∀ b, F b -> W.heap[b]? = w.heap[b]?) -> T W
section
variable {w w' : World} {P P' : Nat -> Prop} {T T' : World -> Prop}
theorem On.now (h : On w P T) : T w := by obtain ⟨F, h1, h2⟩ := h; exact h2 w fun _ _ => rfl
theorem On.mono (h : On w P T) (hp : ∀ b, P b -> b < w.heap.size -> P' b) : On w P' T := by
 obtain ⟨F, h1, h2⟩ := h; exact ⟨F, fun b hb => ⟨hp b (h1 b hb).1 (h1 b hb).2, (h1 b hb).2⟩, h2⟩
theorem On.map (h : On w P T) (ht : ∀ W, T W -> T' W) : On w P T' := by
 obtain ⟨F, h1, h2⟩ := h; exact ⟨F, h1, fun W hW => ht W (h2 W hW)⟩
theorem On.and (h : On w P T) (k : On w P T') : On w P (fun W => T W /\ T' W) := by
 obtain ⟨F, h1, h2⟩ := h
 obtain ⟨G, k1, k2⟩ := k
 exact ⟨fun b => F b ∨ G b, fun b hb => hb.elim (h1 b) (k1 b), fun W hW => ⟨h2 W fun b hb => hW b (.inl hb), k2 W fun b hb => hW b (.inr hb)⟩⟩
theorem On.keep (h : On w P T) (hs : w.heap.size <= w'.heap.size) (hk : ∀ b, P b -> b < w.heap.size -> w'.heap[b]? = w.heap[b]?) : On w' P T := by
 obtain ⟨F, h1, h2⟩ := h
 exact ⟨F, fun b hb => ⟨(h1 b hb).1, Nat.lt_of_lt_of_le (h1 b hb).2 hs⟩, fun W hW => h2 W fun b hb => (hW b hb).trans (hk b (h1 b hb).1 (h1 b hb).2)⟩
theorem On.later (h : On w P T) (hb : Later w w') : On w' P T := h.keep hb.size fun b _ hlt => hb.block b hlt
theorem On.only {g : Nat} (h : On w P T) (o : Only g w w') (hg : ¬ P g) : On w' P T := h.keep (by rw [o.size]; exact Nat.le_refl _) fun b hb _ => o.block b (fun e => hg (e ▸ hb))
theorem On.grown {row : Option Nat} (h : On w P T) (hg : w.grownBy w' row) (hr : ∀ b, P b -> b < w.heap.size -> some b ≠ row) : On w' P T := h.keep hg.size fun b hb hlt => hg.block b hlt (hr b hb hlt)
theorem On.pure (h : ∀ W, T W) : On w P T := ⟨fun _ => False, fun _ hb => hb.elim, fun W _ => h W⟩
theorem On.all {α : Type} {T : α -> World -> Prop} (l : List α) (h : ∀ x ∈ l, On w P (T x)) : On w P (fun W => ∀ x ∈ l, T x W) := by
 induction l with
 | nil => exact On.pure fun W x hx => by cases hx
 | cons a l ih =>
   refine (On.and (h a (List.mem_cons_self ..)) (ih fun x hx => h x (List.mem_cons_of_mem _ hx))).map fun W ⟨h1, h2⟩ x hx => ?_
   rcases List.mem_cons.1 hx with rfl | hx
   ·exact h1
   ·exact h2 x hx
theorem On.of_row {g : Nat} {t : TypeId} {cs : List Value} (h : Row w g t cs) (hP : P g) (ht : ∀ W, Row W g t cs -> T W) : On w P T :=
 ⟨fun b => b = g, fun b hb => by subst hb; exact ⟨hP, h.lt⟩, fun W hW => ht W ((hW g rfl).trans h)⟩
end
theorem cells_agree {w W : World} {A : Option Addr} {xs : List Value} (h : Cells w A xs) (ha : ∀ b, b < w.heap.size -> W.heap[b]? = w.heap[b]?) : Cells W A xs := by
 rcases h with rfl | ⟨b, off, rfl, h⟩
 ·exact .inl rfl
 ·refine .inr ⟨b, off, rfl, fun j u hj => ?_⟩
  have h1 := h j u hj
  have hlt := World.block_lt_of_cell? w _ h1
  exact (World.cell?_of_block (a := ⟨b, off + j, none⟩) (ha b hlt)).trans h1
theorem u32s_agree {w W : World} {v : Value} {l : List Nat} (h : U32s w v l) (ha : ∀ b, b < w.heap.size -> W.heap[b]? = w.heap[b]?) : U32s W v l := by
 obtain ⟨h1, A, cap, h2, h3, h4, h5, h6⟩ := h
 exact ⟨h1, A, cap, h2, h3, h4, h5, cells_agree h6 ha⟩
theorem rawI_agree {w W : World} {v : Value} {z : Int} {k : Nat} (h : RawI w v z k) (ha : ∀ b, b < w.heap.size -> W.heap[b]? = w.heap[b]?) : RawI W v z k := by
 obtain ⟨n, A, m, c, l, e, h, e', hk⟩ := h; exact ⟨n, A, m, c, l, e, u32s_agree h ha, e', hk⟩
theorem rawR_agree {w W : World} {v : Value} {q : Rat} {k : Nat} (h : RawR w v q k) (ha : ∀ b, b < w.heap.size -> W.heap[b]? = w.heap[b]?) : RawR W v q k := by
 obtain ⟨a, A, n, c, b, A', n', c', x, y, e, h1, h2, h3⟩ := h; exact ⟨a, A, n, c, b, A', n', c', x, y, e, rawI_agree h1 ha, rawI_agree h2 ha, h3⟩
abbrev Elem := World -> Value -> Rat -> Prop
def ERaw (k : Nat) : Elem := fun w v q => RawR w v q k
def EOwn : Elem := fun w v q => OwnR w 0 v q
def Rats (E : Elem) (w : World) (v : Value) (l : List Rat) : Prop :=
 ∃ A c, v = .slice A l.length c /\ l.length <= c /\ c <= maxLen /\ ∀ i q, l[i]? = some q -> ∃ b off s A1 n1 c1 s' A2 n2 c2, A = some ⟨b, off, none⟩ /\ w.cell? ⟨b, off + i * 4, none⟩ = some (.bool s) /\ w.cell? ⟨b, off + i * 4 + 1, none⟩ = some (.slice A1 n1 c1) /\
   w.cell? ⟨b, off + i * 4 + 2, none⟩ = some (.bool s') /\ w.cell? ⟨b, off + i * 4 + 3, none⟩ = some (.slice A2 n2 c2) /\ E w (.agg #[.bool s, .slice A1 n1 c1, .bool s', .slice A2 n2 c2]) q
theorem Rats.later {E : Elem} (hE : ∀ w w' v q, E w v q -> Later w w' -> E w' v q) {w w' : World} {v : Value} {l : List Rat} (h : Rats E w v l) (hb : Later w w') : Rats E w' v l := by
 obtain ⟨A, c, e, h1, h2, h3⟩ := h
 refine ⟨A, c, e, h1, h2, fun i q hi => ?_⟩
 obtain ⟨b, off, s, A1, n1, c1, s', A2, n2, c2, ha, x1, x2, x3, x4, hE'⟩ := h3 i q hi
 exact ⟨b, off, s, A1, n1, c1, s', A2, n2, c2, ha, Later.cell hb x1, Later.cell hb x2, Later.cell hb x3, Later.cell hb x4, hE _ _ _ _ hE' hb⟩
theorem ERaw.later {k : Nat} (w w' : World) (v : Value) (q : Rat) (h : ERaw k w v q) (hb : Later w w') : ERaw k w' v q := RawR.later h hb
theorem EOwn.later (w w' : World) (v : Value) (q : Rat) (h : EOwn w v q) (hb : Later w w') : EOwn w' v q := OwnR.later h hb
theorem Rats.map {E E' : Elem} {w : World} {v : Value} {l : List Rat} (h : Rats E w v l) (hE : ∀ v q, q ∈ l -> E w v q -> E' w v q) : Rats E' w v l := by
 obtain ⟨A, c, e, h1, h2, h3⟩ := h
 refine ⟨A, c, e, h1, h2, fun i q hi => ?_⟩
 obtain ⟨b, off, s, A1, n1, c1, s', A2, n2, c2, ha, x1, x2, x3, x4, hE'⟩ := h3 i q hi
 exact ⟨b, off, s, A1, n1, c1, s', A2, n2, c2, ha, x1, x2, x3, x4, hE _ _ (List.mem_of_getElem? hi) hE'⟩
def OutRats (E : Elem) (w : World) (P : Nat -> Prop) (lo : Nat) (v : Value) (l : List Rat) : Prop :=
 ∃ es : List (Bool × Value × Bool × Value), es.length = l.length /\ w.ownsRow lo 67 4 v l.length (es.flatMap fun (e : Bool × Value × Bool × Value) => [.bool e.1, e.2.1, .bool e.2.2.1, e.2.2.2]) /\
   (∀ e ∈ es, (∃ A n c, e.2.1 = .slice A n c) /\ (∃ A n c, e.2.2.2 = .slice A n c)) /\
   On w (fun b => P b /\ some b ≠ v.ownBlock) (fun W => ∀ (i : Nat) (e : Bool × Value × Bool × Value) (q : Rat), es[i]? = some e -> l[i]? = some q -> E W (.agg #[.bool e.1, e.2.1, .bool e.2.2.1, e.2.2.2]) q)
theorem OutRats.nil (E : Elem) (w : World) (P : Nat -> Prop) (lo : Nat) : OutRats E w P lo (.slice none 0 0) [] :=
 ⟨[], rfl, World.ownsRow_nil w lo _ 4, by simp, On.pure fun W i e q hi => by simp at hi⟩
theorem OutRats.mono {E : Elem} {w : World} {P P' : Nat -> Prop} {lo : Nat} {v : Value} {l : List Rat} (h : OutRats E w P lo v l) (hp : ∀ b, P b -> b < w.heap.size -> P' b) : OutRats E w P' lo v l := by
 obtain ⟨es, h1, h2, h3, h4⟩ := h
 exact ⟨es, h1, h2, h3, h4.mono fun b hb hlt => ⟨hp b hb.1 hlt, hb.2⟩⟩
theorem ownsRow_later {w w' : World} {B size n : Nat} {e : TypeId} {v : Value} {xs : List Value} (h : w.ownsRow B e size v n xs) (hb : Later w w') : w'.ownsRow B e size v n xs := by
 obtain ⟨h2, h3⟩ := h
 refine ⟨h2, ?_⟩
 rcases h3 with h3 | ⟨g, cap, cur, rfl, hb', hg, r⟩
 ·exact .inl h3
 ·exact .inr ⟨g, cap, cur, rfl, hb', Row.later (cs := cur.toList) hg hb, r⟩
theorem OutRats.later {E : Elem} {w w' : World} {P : Nat -> Prop} {lo : Nat} {v : Value} {l : List Rat} (h : OutRats E w P lo v l) (hb : Later w w') : OutRats E w' P lo v l := by
 obtain ⟨es, h1, h2, h3, h4⟩ := h
 exact ⟨es, h1, ownsRow_later h2 hb, h3, h4.later hb⟩
theorem OutRats.only {E : Elem} {w w' : World} {P : Nat -> Prop} {lo g : Nat} {v : Value} {l : List Rat} (h : OutRats E w P lo v l) (o : Only g w w') (hg : g < lo) (hP : ¬ P g) : OutRats E w' P lo v l := by
 obtain ⟨es, h1, h2, h3, h4⟩ := h
 exact ⟨es, h1, ownsRow_only h2 o hg, h3, h4.only o fun h => hP h.1⟩
theorem OutRats.snoc {E : Elem} {w W : World} {P : Nat -> Prop} {lo : Nat} {v v' : Value} {l : List Rat} {q : Rat} {s s' : Bool} {A A' : Option Addr} {n c n' c' : Nat}
 (es : List (Bool × Value × Bool × Value)) (h1 : es.length = l.length) (h3 : ∀ e ∈ es, (∃ A n c, e.2.1 = .slice A n c) /\ (∃ A n c, e.2.2.2 = .slice A n c))
 (h4 : On w (fun b => P b /\ some b ≠ v.ownBlock) (fun W => ∀ (i : Nat) (e : Bool × Value × Bool × Value) (q : Rat), es[i]? = some e -> l[i]? = some q -> E W (.agg #[.bool e.1, e.2.1, .bool e.2.2.1, e.2.2.2]) q))
 (hown : W.ownsRow lo 67 4 v' (l.length + 1) ((es.flatMap fun (e : Bool × Value × Bool × Value) => [.bool e.1, e.2.1, .bool e.2.2.1, e.2.2.2]) ++ [.bool s, .slice A n c, .bool s', .slice A' n' c']))
 (hg : w.grownBy W v.ownBlock) (hblk : v'.ownBlock = v.ownBlock ∨ v'.ownBlock = some w.heap.size)
 (hx : On w (fun b => P b /\ some b ≠ v.ownBlock) (fun W => E W (.agg #[.bool s, .slice A n c, .bool s', .slice A' n' c']) q)) : OutRats E W P lo v' (l ++ [q]) := by
 refine ⟨es ++ [(s, .slice A n c, s', .slice A' n' c')], by simp [h1], by rw [List.length_append, List.flatMap_append]; exact hown, ?_, ?_⟩
 ·intro e he
  rcases List.mem_append.1 he with he | he
  ·exact h3 e he
  ·simp at he; subst he; exact ⟨⟨_, _, _, rfl⟩, ⟨_, _, _, rfl⟩⟩
 ·have h5 := (h4.and hx).grown hg (fun b hb _ => hb.2)
  have h6 : On W (fun b => P b /\ some b ≠ v'.ownBlock) _ := (by
   obtain ⟨F, f1, f2⟩ := h4.and hx
   refine ⟨F, fun b hb => ⟨⟨(f1 b hb).1.1, ?_⟩, Nat.lt_of_lt_of_le (f1 b hb).2 hg.size⟩, fun W' hW' => f2 W' fun b hb => (hW' b hb).trans (hg.block b (f1 b hb).2 (f1 b hb).1.2)⟩
   rcases hblk with e | e
   ·rw [e]; exact (f1 b hb).1.2
   ·rw [e]; intro e2; injection e2 with e2; have := (f1 b hb).2; omega)
  refine h6.map fun W' ⟨k1, k2⟩ i e q' hi hq => ?_
  by_cases hlt : i < es.length
  ·rw [List.getElem?_append_left hlt] at hi
   rw [List.getElem?_append_left (by omega)] at hq
   exact k1 i e q' hi hq
  ·by_cases he : i = es.length
   ·subst he
    rw [List.getElem?_append_right (Nat.le_refl _), Nat.sub_self] at hi
    rw [h1, List.getElem?_append_right (Nat.le_refl _), Nat.sub_self] at hq
    simp at hi hq
    subst hi hq
    exact k2
   ·rw [List.getElem?_eq_none (by simp; omega)] at hi; cases hi
theorem flat4_get (es : List (Bool × Value × Bool × Value)) (i j : Nat) (hj : j < 4) (e : Bool × Value × Bool × Value) (hi : es[i]? = some e) :
 (es.flatMap fun e => [Value.bool e.1, e.2.1, Value.bool e.2.2.1, e.2.2.2])[i * 4 + j]? = [Value.bool e.1, e.2.1, Value.bool e.2.2.1, e.2.2.2][j]? := by
 induction es generalizing i with
 | nil => simp at hi
 | cons a es ih =>
   rw [List.flatMap_cons]
   cases i with
   | zero =>
     simp at hi; subst hi
     rw [Nat.zero_mul, Nat.zero_add, List.getElem?_append_left (by simpa using hj)]
   | succ i =>
     have h1 := ih i (by simpa using hi)
     rw [List.getElem?_append_right (by simp; omega)]
     rw [<- h1]; congr 1; simp; omega
theorem OutRats.rats {E : Elem} {w : World} {P : Nat -> Prop} {lo : Nat} {v : Value} {l : List Rat} (h : OutRats E w P lo v l) : On w (fun b => P b ∨ lo <= b) (fun W => Rats E W v l) := by
 obtain ⟨es, h1, ⟨h2, h2'⟩, h3, h4⟩ := h
 rcases h2' with ⟨rfl, h0⟩ | ⟨g, cap, cur, rfl, hb, hg, hn, hm, hs, ht⟩
 ·have : l = [] := List.eq_nil_of_length_eq_zero h0
  subst this
  exact On.pure fun W => ⟨none, 0, rfl, by simp, by simp, fun i q hi => by simp at hi⟩
 ·have hrow : Row w g 67 cur.toList := by unfold Row; simpa using hg
  have h5 : On w (fun b => P b ∨ lo <= b) (fun W => Row W g 67 cur.toList) := On.of_row hrow (.inr hb) fun W hW => hW
  refine (h5.and (h4.mono fun b hb _ => .inl hb.1)).map fun W ⟨hr, he⟩ => ?_
  refine ⟨some ⟨g, 0, none⟩, cap, rfl, hn, hm, fun i q hi => ?_⟩
  have hil : i < es.length := by rw [h1]; exact (List.getElem?_eq_some_iff.1 hi).1
  obtain ⟨e, hee⟩ : ∃ e, es[i]? = some e := ⟨es[i], List.getElem?_eq_getElem hil⟩
  obtain ⟨⟨A1, n1, c1, e1⟩, ⟨A2, n2, c2, e2⟩⟩ := h3 e (List.mem_of_getElem? hee)
  have hcell : ∀ j, j < 4 -> ∀ u, [Value.bool e.1, e.2.1, Value.bool e.2.2.1, e.2.2.2][j]? = some u -> W.cell? ⟨g, 0 + i * 4 + j, none⟩ = some u := fun j hj u hu => by
   rw [Nat.zero_add]
   refine hr.cell ?_
   rw [<- flat4_get es i j hj e hee, <- ht, List.getElem?_take] at hu
   split at hu
   ·exact hu
   ·cases hu
  refine ⟨g, 0, e.1, A1, n1, c1, e.2.2.1, A2, n2, c2, rfl, hcell 0 (by omega) _ rfl, hcell 1 (by omega) _ (by simp [e1]), hcell 2 (by omega) _ rfl, hcell 3 (by omega) _ (by simp [e2]), ?_⟩
  have := he i e q hee hi
  rw [e1, e2] at this; exact this
def OwnRats (w : World) (B : Nat) (v : Value) (l : List Rat) : Prop := On w (fun b => B <= b) (fun W => Rats EOwn W v l)
theorem OwnRats.later {w w' : World} {B : Nat} {v : Value} {l : List Rat} (h : OwnRats w B v l) (hb : Later w w') : OwnRats w' B v l := On.later h hb
theorem OwnRats.weaken {w : World} {B C : Nat} {v : Value} {l : List Rat} (h : OwnRats w B v l) (hC : C <= B) : OwnRats w C v l := On.mono h fun b hb _ => Nat.le_trans hC hb
theorem OwnRats.only {w w' : World} {B g : Nat} {v : Value} {l : List Rat} (h : OwnRats w B v l) (o : Only g w w') (hg : g < B) : OwnRats w' B v l := On.only h o (by omega)
end Go.Proofs.YtncbebfhakcgdaaGreat
namespace Go.Proofs.YtncbebfhakcgdaaGreat
open Go.RowKit
theorem Later.grownBy {w w' : World} (h : Later w w') (row : Option Nat) : w.grownBy w' row := ⟨h.os, h.tape, h.output, h.size, fun b hb _ => h.block b hb⟩
theorem OutRats.lt {E : Elem} {w : World} {P : Nat -> Prop} {lo : Nat} {v : Value} {l : List Rat} (h : OutRats E w P lo v l) : ∀ k, v.ownBlock = some k -> lo <= k /\ k < w.heap.size := by
 obtain ⟨es, h1, h2, -⟩ := h; exact World.ownsRow.lt h2
section
variable {w : World} {o : Oper} {a : Act} {K : Act -> World -> Prop} {Q : Exit -> Act -> World -> Prop}
theorem wp_append_own_ {P : Program} (s x : Operand) (t : TypeId)
 (ho : o.op = .call { callee := .builtin .append, args := #[s, x], argTypes := #[t, t] })
 (base : Nat) (e : TypeId) (z : Value) (size bytes : Nat) (ht : P.underlying t = some (.slice e)) (hinfo : (P.info? e).map (fun i => (i.zero, i.size, i.bytes)) = some (some z, size, bytes))
 (hzs : z.cells.size = size) (hsz : 0 < size) (hby : bytes <= 1024)
 (v : Value) (n : Nat) (xs : List Value) (hs : a.eval s = v) (hown : w.ownsRow base e size v n xs)
 (ad : Addr) (m c : Nat) (news : List Value) (hx : a.eval x = .slice (some ad) m c) (hl : news.length = m * size) (hnews : ∀ j u, news[j]? = some u -> w.cell? (ad.add j) = some u) (h1 : ∀ u ∈ news, u.oneCell' = true)
 (hnm : n + m <= 4000000000) (hbase : base <= w.heap.size)
 (h : ∀ v' w', w'.ownsRow base e size v' (n + m) (xs ++ news) -> w.grownBy w' v.ownBlock -> (v'.ownBlock = v.ownBlock ∨ v'.ownBlock = some w.heap.size) -> K (a.put o.dst v') w') : o.wp P a w K Q := by
 obtain ⟨i, hi, hz0, hz1, hz2⟩ := info_parts hinfo
 have h5 : (n + m) * bytes <= 4000000000 * 1024 := Nat.mul_le_mul hnm hby
 obtain ⟨v', w', hr, h2, h3, h4, h5⟩ := run_append_own_at (P := P) w base t o.type e i z size bytes ht hi hz0 hz1 hz2 hzs hsz v n xs hown ad m c news hl hnews h1 (by unfold maxLen; omega) (by omega) hbase
 unfold Oper.wp execOp
 simp only [ho, resolve, invoke, builtin, Sem.run_bind, Sem.run_pure, Result.andThen_ok, List.map_toArray, List.map_cons, List.map_nil, hs, hx, hr]
 exact h v' w' h2 h3 h5
end
theorem Rats.at_ {E : Elem} {w : World} {A : Option Addr} {n c : Nat} {l : List Rat} (h : Rats E w (.slice A n c) l) {i : Nat} {q : Rat} (hi : l[i]? = some q) :
 ∃ b off s A1 n1 c1 s' A2 n2 c2, A = some ⟨b, off, none⟩ /\ w.cell? ⟨b, off + i * 4, none⟩ = some (.bool s) /\ w.cell? ⟨b, off + i * 4 + 1, none⟩ = some (.slice A1 n1 c1) /\
 w.cell? ⟨b, off + i * 4 + 2, none⟩ = some (.bool s') /\ w.cell? ⟨b, off + i * 4 + 3, none⟩ = some (.slice A2 n2 c2) /\ E w (.agg #[.bool s, .slice A1 n1 c1, .bool s', .slice A2 n2 c2]) q := by
 obtain ⟨A', c', e, -, -, h3⟩ := h
 injection e with e1 e2 e3
 subst e1
 exact h3 i q hi
theorem Rats.form {E : Elem} {w : World} {v : Value} {l : List Rat} (h : Rats E w v l) : ∃ A n c, v = .slice A n c /\ n = l.length /\ n <= c /\ c <= maxLen /\ Rats E w (.slice A n c) l := by
 obtain ⟨A, c, rfl, h1, h2, h3⟩ := id h
 exact ⟨A, _, c, rfl, rfl, h1, h2, h⟩
end Go.Proofs.YtncbebfhakcgdaaGreat
namespace Go.Proofs.YtncbebfhakcgdaaGreat
open Go.RowKit Go.Shelf
attribute [local go_sem ↓] Go.wp_at_zero Go.wp_at_succ
theorem rawR_zero (w : World) (k : Nat) : RawR w (.agg #[.bool false, .slice none 0 0, .bool false, .slice none 0 0]) 0 k :=
 ⟨_, _, _, _, _, _, _, _, 0, 0, rfl, rawI_zero w k, rawI_zero w k, by rw [ratOf_not (by omega)]⟩
end Go.Proofs.YtncbebfhakcgdaaGreat
namespace Go.Proofs.YtncbebfhakcgdaaGreat
open Go.RowKit Go.Shelf
attribute [local go_sem ↓] Go.wp_at_zero Go.wp_at_succ
end Go.Proofs.YtncbebfhakcgdaaGreat
namespace Go.Proofs.YtncbebfhakcgdaaGreat
open Go.RowKit Go.Shelf
attribute [local go_sem ↓] Go.wp_at_zero Go.wp_at_succ
theorem Rats.sized {k : Nat} {w : World} {v : Value} {l : List Rat} (h : Rats (ERaw k) w v l) : ∀ q ∈ l, Sized q (k+1) := by
 intro q hq
 obtain ⟨i, hi⟩ := List.getElem?_of_mem hq
 obtain ⟨A, c, e, -, -, h3⟩ := h
 obtain ⟨b, off, s, A1, n1, c1, s', A2, n2, c2, -, -, -, -, -, hE⟩ := h3 i q hi
 exact RawR.sized hE
end Go.Proofs.YtncbebfhakcgdaaGreat
namespace Go.Proofs.YtncbebfhakcgdaaGreat
open Go.RowKit Go.Shelf
attribute [local go_sem ↓] Go.wp_at_zero Go.wp_at_succ
end Go.Proofs.YtncbebfhakcgdaaGreat
namespace Go.Proofs.YtncbebfhakcgdaaGreat
open Go.RowKit Go.Shelf
attribute [local go_sem ↓] Go.wp_at_zero Go.wp_at_succ
def EAny : Elem := fun w v q => ∃ k, RawR w v q k
theorem EAny.later (w w' : World) (v : Value) (q : Rat) (h : EAny w v q) (hb : Later w w') : EAny w' v q := by
 obtain ⟨k, h⟩ := h; exact ⟨k, h.later hb⟩
end Go.Proofs.YtncbebfhakcgdaaGreat
namespace Go.Proofs.YtncbebfhakcgdaaGreat
open Go.RowKit
def EOn (P : Nat -> Prop) (E : Elem) : Elem := fun w v q => On w P (fun W => E W v q)
theorem EOn.later {P : Nat -> Prop} {E : Elem} (w w' : World) (v : Value) (q : Rat) (h : EOn P E w v q) (hb : Later w w') : EOn P E w' v q := On.later h hb
def Tab (E : Elem) (w : World) (v : Value) (t : List (List Rat)) : Prop :=
 ∃ A c, v = .slice A t.length c /\ t.length <= c /\ c <= maxLen /\ ∀ i row, t[i]? = some row -> ∃ b off A' n' c', A = some ⟨b, off, none⟩ /\ w.cell? ⟨b, off + i, none⟩ = some (.slice A' n' c') /\ Rats E w (.slice A' n' c') row
theorem Tab.later {E : Elem} (hE : ∀ w w' v q, E w v q -> Later w w' -> E w' v q) {w w' : World} {v : Value} {t : List (List Rat)} (h : Tab E w v t) (hb : Later w w') : Tab E w' v t := by
 obtain ⟨A, c, e, h1, h2, h3⟩ := h
 refine ⟨A, c, e, h1, h2, fun i row hi => ?_⟩
 obtain ⟨b, off, A', n', c', ha, x1, x2⟩ := h3 i row hi
 exact ⟨b, off, A', n', c', ha, Later.cell hb x1, x2.later hE hb⟩
theorem Tab.map {E E' : Elem} {w : World} {v : Value} {t : List (List Rat)} (h : Tab E w v t) (hE : ∀ row ∈ t, ∀ v q, q ∈ row -> E w v q -> E' w v q) : Tab E' w v t := by
 obtain ⟨A, c, e, h1, h2, h3⟩ := h
 refine ⟨A, c, e, h1, h2, fun i row hi => ?_⟩
 obtain ⟨b, off, A', n', c', ha, x1, x2⟩ := h3 i row hi
 exact ⟨b, off, A', n', c', ha, x1, x2.map (hE row (List.mem_of_getElem? hi))⟩
theorem Tab.form {E : Elem} {w : World} {v : Value} {t : List (List Rat)} (h : Tab E w v t) : ∃ A n c, v = .slice A n c /\ n = t.length /\ n <= c /\ c <= maxLen /\ Tab E w (.slice A n c) t := by
 obtain ⟨A, c, rfl, h1, h2, h3⟩ := id h
 exact ⟨A, _, c, rfl, rfl, h1, h2, h⟩
theorem Tab.at_ {E : Elem} {w : World} {A : Option Addr} {n c : Nat} {t : List (List Rat)} (h : Tab E w (.slice A n c) t) {i : Nat} {row : List Rat} (hi : t[i]? = some row) :
 ∃ b off A' n' c', A = some ⟨b, off, none⟩ /\ w.cell? ⟨b, off + i, none⟩ = some (.slice A' n' c') /\ Rats E w (.slice A' n' c') row := by
 obtain ⟨A', c', e, -, -, h3⟩ := h
 injection e with e1 e2 e3
 subst e1
 exact h3 i row hi
def OutTab (E : Elem) (w : World) (P : Nat -> Prop) (lo : Nat) (v : Value) (t : List (List Rat)) : Prop :=
 ∃ es : List Value, es.length = t.length /\ w.ownsRow lo 134 1 v t.length es /\ (∀ e ∈ es, ∃ A n c, e = .slice A n c) /\
   On w (fun b => P b /\ some b ≠ v.ownBlock) (fun W => ∀ (i : Nat) (e : Value) (row : List Rat), es[i]? = some e -> t[i]? = some row -> Rats E W e row)
theorem OutTab.nil (E : Elem) (w : World) (P : Nat -> Prop) (lo : Nat) : OutTab E w P lo (.slice none 0 0) [] :=
 ⟨[], rfl, World.ownsRow_nil w lo _ 1, by simp, On.pure fun W i e q hi => by simp at hi⟩
theorem OutTab.later {E : Elem} {w w' : World} {P : Nat -> Prop} {lo : Nat} {v : Value} {t : List (List Rat)} (h : OutTab E w P lo v t) (hb : Later w w') : OutTab E w' P lo v t := by
 obtain ⟨es, h1, h2, h3, h4⟩ := h
 exact ⟨es, h1, ownsRow_later h2 hb, h3, h4.later hb⟩
theorem OutTab.mono {E : Elem} {w : World} {P P' : Nat -> Prop} {lo : Nat} {v : Value} {t : List (List Rat)} (h : OutTab E w P lo v t) (hp : ∀ b, P b -> b < w.heap.size -> P' b) : OutTab E w P' lo v t := by
 obtain ⟨es, h1, h2, h3, h4⟩ := h
 exact ⟨es, h1, h2, h3, h4.mono fun b hb hlt => ⟨hp b hb.1 hlt, hb.2⟩⟩
theorem ownsRow_weaken {w : World} {B C size n : Nat} {e : TypeId} {v : Value} {xs : List Value} (h : w.ownsRow B e size v n xs) (hC : C <= B) : w.ownsRow C e size v n xs := by
 obtain ⟨h2, h3⟩ := h
 refine ⟨h2, ?_⟩
 rcases h3 with h3 | ⟨g, cap, cur, rfl, hb', hg, r⟩
 ·exact .inl h3
 ·exact .inr ⟨g, cap, cur, rfl, Nat.le_trans hC hb', hg, r⟩
theorem OutTab.weaken {E : Elem} {w : World} {P : Nat -> Prop} {lo lo' : Nat} {v : Value} {t : List (List Rat)} (h : OutTab E w P lo v t) (hl : lo' <= lo) : OutTab E w P lo' v t := by
 obtain ⟨es, h1, h2, h3, h4⟩ := h
 exact ⟨es, h1, ownsRow_weaken h2 hl, h3, h4⟩
theorem OutTab.lt {E : Elem} {w : World} {P : Nat -> Prop} {lo : Nat} {v : Value} {t : List (List Rat)} (h : OutTab E w P lo v t) : ∀ k, v.ownBlock = some k -> lo <= k /\ k < w.heap.size := by
 obtain ⟨es, h1, h2, -⟩ := h; exact World.ownsRow.lt h2
theorem OutTab.snoc {E : Elem} {w W : World} {P : Nat -> Prop} {lo : Nat} {v v' : Value} {t : List (List Rat)} {row : List Rat} {A : Option Addr} {n c : Nat}
 (es : List Value) (h1 : es.length = t.length) (h3 : ∀ e ∈ es, ∃ A n c, e = .slice A n c)
 (h4 : On w (fun b => P b /\ some b ≠ v.ownBlock) (fun W => ∀ (i : Nat) (e : Value) (row : List Rat), es[i]? = some e -> t[i]? = some row -> Rats E W e row))
 (hown : W.ownsRow lo 134 1 v' (t.length + 1) (es ++ [.slice A n c])) (hg : w.grownBy W v.ownBlock) (hblk : v'.ownBlock = v.ownBlock ∨ v'.ownBlock = some w.heap.size)
 (hx : On w (fun b => P b /\ some b ≠ v.ownBlock) (fun W => Rats E W (.slice A n c) row)) : OutTab E W P lo v' (t ++ [row]) := by
 refine ⟨es ++ [.slice A n c], by simp [h1], by rw [List.length_append]; exact hown, ?_, ?_⟩
 ·intro e he
  rcases List.mem_append.1 he with he | he
  ·exact h3 e he
  ·simp at he; subst he; exact ⟨_, _, _, rfl⟩
 ·have h6 : On W (fun b => P b /\ some b ≠ v'.ownBlock) _ := (by
   obtain ⟨F, f1, f2⟩ := h4.and hx
   refine ⟨F, fun b hb => ⟨⟨(f1 b hb).1.1, ?_⟩, Nat.lt_of_lt_of_le (f1 b hb).2 hg.size⟩, fun W' hW' => f2 W' fun b hb => (hW' b hb).trans (hg.block b (f1 b hb).2 (f1 b hb).1.2)⟩
   rcases hblk with e | e
   ·rw [e]; exact (f1 b hb).1.2
   ·rw [e]; intro e2; injection e2 with e2; have := (f1 b hb).2; omega)
  refine h6.map fun W' ⟨k1, k2⟩ i e q' hi hq => ?_
  by_cases hlt : i < es.length
  ·rw [List.getElem?_append_left hlt] at hi
   rw [List.getElem?_append_left (by omega)] at hq
   exact k1 i e q' hi hq
  ·by_cases he : i = es.length
   ·subst he
    rw [List.getElem?_append_right (Nat.le_refl _), Nat.sub_self] at hi
    rw [h1, List.getElem?_append_right (Nat.le_refl _), Nat.sub_self] at hq
    simp at hi hq
    subst hi hq
    exact k2
   ·rw [List.getElem?_eq_none (by simp; omega)] at hi; cases hi
section
variable {w : World} {o : Oper} {a : Act} {K : Act -> World -> Prop} {Q : Exit -> Act -> World -> Prop}
end
end Go.Proofs.YtncbebfhakcgdaaGreat
namespace Go.Proofs.YtncbebfhakcgdaaGreat
open Go.RowKit Go.Shelf
attribute [local go_sem ↓] Go.wp_at_zero Go.wp_at_succ
def RetZ (w : World) (P : Int -> Prop) (e : Ending) (w' : World) : Prop := ∃ z : Int, e = .returned (.int .i64 z) /\ P z /\ Later w w'
end Go.Proofs.YtncbebfhakcgdaaGreat
namespace Go.Proofs.YtncbebfhakcgdaaGreat
open Go.RowKit Go.Shelf
attribute [local go_sem ↓] Go.wp_at_zero Go.wp_at_succ
theorem own_empty (w : World) (e : TypeId) (size : Nat) : (w.alloc (Obj.cells #[] e)).ownsRow w.heap.size e size (.slice (some ⟨w.heap.size, 0, none⟩) 0 0) 0 [] :=
 ⟨by simp, .inr ⟨w.heap.size, 0, #[], rfl, Nat.le_refl _, Row.new w e [], Nat.le_refl _, Nat.zero_le _, by simp, by simp⟩⟩
theorem On.list_ {α : Type} {w : World} {P : Nat -> Prop} {T : Nat -> α -> World -> Prop} (n : Nat) (f : Nat -> Option α) (h : ∀ i x, i < n -> f i = some x -> On w P (T i x)) : On w P (fun W => ∀ i x, i < n -> f i = some x -> T i x W) := by
 induction n with
 | zero => exact On.pure fun W i x hi => by omega
 | succ n ih =>
   have h1 := ih fun i x hi hx => h i x (by omega) hx
   cases hf : f n with
   | none =>
     refine h1.map fun W hW i x hi hx => ?_
     by_cases e : i = n
     ·subst e; rw [hf] at hx; cases hx
     ·exact hW i x (by omega) hx
   | some y =>
     refine (h1.and (h n y (by omega) hf)).map fun W hWy i x hi hx => ?_
     by_cases e : i = n
     ·subst e; rw [hf] at hx; injection hx with hx; rw [<- hx]; exact hWy.2
     ·exact hWy.1 i x (by omega) hx
end Go.Proofs.YtncbebfhakcgdaaGreat
namespace Go.Proofs.YtncbebfhakcgdaaGreat
open Go.RowKit Go.Shelf
attribute [local go_sem ↓] Go.wp_at_zero Go.wp_at_succ
theorem Tab.sized {k : Nat} {w : World} {v : Value} {t : List (List Rat)} (h : Tab (ERaw k) w v t) : ∀ row ∈ t, ∀ q ∈ row, Sized q (k+1) := by
 intro row hr q hq
 obtain ⟨i, hi⟩ := List.getElem?_of_mem hr
 obtain ⟨A, c, e, -, -, h3⟩ := h
 obtain ⟨b, off, A', n', c', -, -, x⟩ := h3 i row hi
 exact Rats.sized x q hq
end Go.Proofs.YtncbebfhakcgdaaGreat
namespace Go.Proofs.YtncbebfhakcgdaaGreat
def piv (M : Nat -> Nat -> Rat) (r c : Nat) : Nat -> Nat -> Rat := fun i k => if i = r then M r k / M r c else M i k - M i c * (M r k / M r c)
structure UnitF (n c : Nat) (M : Nat -> Nat -> Rat) (u : Nat -> Nat) : Prop where
 lt : ∀ k, k < c -> u k < n
 inj : ∀ k j, k < c -> j < c -> u k = u j -> k = j
 ent : ∀ k i, k < c -> i < n -> M i k = if i = u k then 1 else 0
theorem UnitF.zero (n : Nat) (M : Nat -> Nat -> Rat) (u : Nat -> Nat) : UnitF n 0 M u := ⟨fun k h => by omega, fun k j h => by omega, fun k i h => by omega⟩
theorem UnitF.step {n c : Nat} {M : Nat -> Nat -> Rat} {u v : Nat -> Nat} {r : Nat} (h : UnitF n c M u) (hr : r < n) (hu : ∀ k, k < c -> u k ≠ r) (hp : M r c ≠ 0) (hv : ∀ k, k < c -> v k = u k) (hc : v c = r) : UnitF n (c+1) (piv M r c) v := by
 refine ⟨fun k hk => ?_, fun k j hk hj e => ?_, fun k i hk hi => ?_⟩
 ·by_cases e : k = c
  ·subst e; omega
  ·rw [hv k (by omega)]; exact h.lt k (by omega)
 ·by_cases e1 : k = c
  ·by_cases e2 : j = c
   ·omega
   ·subst e1; rw [hc, hv j (by omega)] at e; exact absurd e.symm (hu j (by omega))
  ·by_cases e2 : j = c
   ·subst e2; rw [hc, hv k (by omega)] at e; exact absurd e (hu k (by omega))
   ·rw [hv k (by omega), hv j (by omega)] at e; exact h.inj k j (by omega) (by omega) e
 ·by_cases e : k = c
  ·subst e
   rw [hc]
   by_cases e2 : i = r
   ·subst e2; simp only [piv, if_true]; grind
   ·simp only [piv, if_neg e2]; grind
  ·have h1 := h.ent k i (by omega) hi
   have h2 := h.ent k r (by omega) hr
   rw [if_neg (fun e => hu k (by omega) e.symm)] at h2
   rw [hv k (by omega)]
   by_cases e2 : i = r
   ·subst e2; rw [if_neg (fun e => hu k (by omega) e.symm)]; simp only [piv, if_true]; rw [h2]; grind
   ·simp only [piv, if_neg e2]; rw [h1, h2]; grind
end Go.Proofs.YtncbebfhakcgdaaGreat
namespace Go.Proofs.YtncbebfhakcgdaaGreat
def ent (t : List (List Rat)) (i k : Nat) : Rat := (t.getD i []).getD k 0
def grow (k : Nat) : Nat -> Nat
 | 0 => k
 | c+1 => 4 * grow k c + 9
end Go.Proofs.YtncbebfhakcgdaaGreat
namespace Go.Proofs.YtncbebfhakcgdaaGreat
open Go.RowKit Go.Shelf
attribute [local go_sem ↓] Go.wp_at_zero Go.wp_at_succ
theorem OutTab.map {E E' : Elem} {w : World} {P : Nat -> Prop} {lo : Nat} {v : Value} {t : List (List Rat)} (h : OutTab E w P lo v t) (hE : ∀ W v q, (∃ row ∈ t, q ∈ row) -> E W v q -> E' W v q) : OutTab E' w P lo v t := by
 obtain ⟨es, h1, h2, h3, h4⟩ := h
 exact ⟨es, h1, h2, h3, h4.map fun W hW i e row hi hr => (hW i e row hi hr).map fun v q hq he => hE W v q ⟨row, List.mem_of_getElem? hr, hq⟩ he⟩
theorem OutTab.open_ {E : Elem} {w : World} {P : Nat -> Prop} {lo : Nat} {v : Value} {t : List (List Rat)} (h : OutTab E w P lo v t) (hi : 0 < t.length) :
 ∃ g cap cs, v = .slice (some ⟨g, 0, none⟩) t.length cap /\ lo <= g /\ t.length <= cap /\ cap <= maxLen /\ Row w g 134 cs /\ ∀ j, j < t.length -> ∃ A n c, cs[j]? = some (.slice A n c) := by
 obtain ⟨es, h1, ⟨h2, h2'⟩, h3, h4⟩ := h
 rcases h2' with ⟨rfl, h0⟩ | ⟨g, cap, cur, rfl, hb, hg, hn, hm, hs, ht⟩
 ·omega
 ·refine ⟨g, cap, cur.toList, rfl, hb, hn, hm, by unfold Row; simpa using hg, fun j hj => ?_⟩
  obtain ⟨e, hee⟩ : ∃ e, es[j]? = some e := ⟨es[j]'(by omega), List.getElem?_eq_getElem _⟩
  obtain ⟨A1, n1, c1, rfl⟩ := h3 e (List.mem_of_getElem? hee)
  refine ⟨A1, n1, c1, ?_⟩
  rw [<- ht, List.getElem?_take] at hee
  split at hee
  ·exact hee
  ·cases hee
theorem Tab.drop {E : Elem} {w : World} {b off n cap c : Nat} {t : List (List Rat)} (h : Tab E w (.slice (some ⟨b, off, none⟩) n cap) t) (hc : c <= n) : Tab E w (.slice (some ⟨b, off + c, none⟩) (n - c) (cap - c)) (t.drop c) := by
 obtain ⟨A, cap', e, h1, h2, h3⟩ := h
 injection e with e1 e2 e3
 subst e1 e2 e3
 refine ⟨_, cap - c, by rw [List.length_drop], by rw [List.length_drop]; omega, by omega, fun i row hi => ?_⟩
 rw [List.getElem?_drop] at hi
 obtain ⟨b', off', A', n', c', ha, x1, x2⟩ := h3 (c + i) row hi
 injection ha with ha; injection ha with ha1 ha2
 subst ha1 ha2
 exact ⟨b, off + c, A', n', c', rfl, by rw [Nat.add_assoc]; exact x1, x2⟩
end Go.Proofs.YtncbebfhakcgdaaGreat
namespace Go.Proofs.YtncbebfhakcgdaaGreat
open Go.RowKit Go.Shelf
attribute [local go_sem ↓] Go.wp_at_zero Go.wp_at_succ
theorem OutRats.weaken {E : Elem} {w : World} {P : Nat -> Prop} {lo lo' : Nat} {v : Value} {l : List Rat} (h : OutRats E w P lo v l) (hl : lo' <= lo) : OutRats E w P lo' v l := by
 obtain ⟨es, h1, h2, h3, h4⟩ := h
 exact ⟨es, h1, ownsRow_weaken h2 hl, h3, h4⟩
end Go.Proofs.YtncbebfhakcgdaaGreat
namespace Go.Proofs.YtncbebfhakcgdaaGreat
open Go.RowKit Go.Shelf
attribute [local go_sem ↓] Go.wp_at_zero Go.wp_at_succ
set_option maxHeartbeats 1000000 in
theorem lawof_calls (w : World) (n : Int) (h1 : -9223372036854775808 <= n) (h2 : n < 9223372036854775808) (q : Rat) (hq : Rat.divInt n 1 = q) :
 Calls Tryz.prog 53 #[.int .i64 n] w (Ret w fun w' v => OwnR w' w.heap.size v q) := by
 obtain ⟨W0, hW0⟩ : ∃ W0, W0 = w.alloc (Obj.cells #[Value.bool false, Value.slice none 0 0, Value.bool false, Value.slice none 0 0] 67) := ⟨_, rfl⟩
 obtain ⟨hb0, r1, hsz0⟩ := boxes1 w [.bool false, .slice none 0 0, .bool false, .slice none 0 0] 67 hW0
 have R1 := hide r1; have B0' := hide hb0; have HW0 := hide hW0
 clear r1 hb0 hW0
 go_enter Tryz.func53, Tryz.ntmps53
 go_wp2_with fail
 rw [<- HW0.out]
 refine (qof_calls _ n 1 h1 h2 (by omega) (by omega) (by omega) q hq).mono ?_
 rintro e w1 ⟨v1, ok1, rfl, ⟨o1, rfl⟩, b1⟩
 obtain ⟨s1, P1, q1, e1, P1', q1', e1', rfl, o1⟩ := o1.open_; have O1 := hide o1; clear o1
 have hs1 := b1.size
 have hb2 := b1.alloc (Obj.cells #[Value.bool s1, Value.slice P1 q1 e1, Value.bool false, Value.slice P1' q1' e1'] 67)
 have HR := hide (R1.out.later hb2)
 have hL := hide (B0'.out.trans hb2)
 obtain ⟨d1, d2, d3, d4, d5, d6, d7, d8⟩ := row_cells4 HR.out
 go_wp2_with fail
 refine bodyPost_ret (results_rat rfl rfl (HR.out.four _ _ _ _)) rfl ?_
 have oo := Only.four w.heap.size (w1.alloc (Obj.cells #[Value.bool s1, Value.slice P1 q1 e1, Value.bool false, Value.slice P1' q1' e1'] 67)) (.bool s1) (.slice P1 q1 e1) (.bool false) (.slice P1' q1' e1')
 exact ⟨_, rfl, ((O1.out.later ((Later.refl _).alloc _)).only oo (by omega)).weaken (by omega), hL.out.only oo (Nat.le_refl _)⟩
end Go.Proofs.YtncbebfhakcgdaaGreat
namespace Go.Proofs.YtncbebfhakcgdaaGreat
theorem sized_small {q : Rat} (h1 : q.num.natAbs < 2 ^ 32) (h2 : q.den < 2 ^ 32) : Sized q 1 := ⟨length_limbs_le (by simpa using h1), length_limbs_le (by simpa using h2)⟩
theorem sized_0 : Sized 0 1 := sized_small (by decide) (by decide)
theorem sized_1 : Sized 1 1 := sized_small (by decide) (by decide)
theorem sized_2 : Sized 2 1 := sized_small (by decide) (by decide)
theorem sized_3 : Sized 3 1 := sized_small (by decide) (by decide)
end Go.Proofs.YtncbebfhakcgdaaGreat
