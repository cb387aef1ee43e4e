/- Whole numbers: Cmp. -/
import Derived.Test.YtncbebfhakcgdaaGreatC3
import Derived.Deep.RegionHeld3
import Derived.Deep.DrawnRows
set_option linter.unusedVariables false
set_option linter.unusedSimpArgs false
set_option maxRecDepth 100000
namespace Go.Proofs.YtncbebfhakcgdaaGreat
open Go.RowKit Go.Shelf
def cmpZ (x y : Int) : Int := if x < y then -1 else if y < x then 1 else 0
theorem row_cells2 {w : World} {g : Nat} {t : TypeId} {a b : Value} (h : Row w g t [a, b]) : w.cell? ⟨g, 0, none⟩ = some a /\ w.cell? ⟨g, 1, none⟩ = some b /\ w.frozen? ⟨g, 0, none⟩ = false /\ w.frozen? ⟨g, 1, none⟩ = false :=
 ⟨h.cell rfl, h.cell rfl, h.frozen 0, h.frozen 1⟩
theorem cmpZ_neg {x y : Int} (hx : x < 0) (hy : y < 0) : cmpN y.natAbs x.natAbs = cmpZ x y := by
 unfold cmpN cmpZ; (repeat' split) <;> omega
theorem cmpZ_pos {x y : Int} (hx : ¬ x < 0) (hy : ¬ y < 0) : cmpN x.natAbs y.natAbs = cmpZ x y := by
 unfold cmpN cmpZ; (repeat' split) <;> omega
theorem RawI.limbs_le {w : World} {v : Value} {z : Int} {k : Nat} (h : RawI w v z k) : (limbs z.natAbs).length <= k := by
 obtain ⟨n, A, m, c, l, e, h, e', hk⟩ := h
 rw [e', natAbs_sgn]; exact Nat.le_trans (length_limbs_val h.1) hk
theorem Own32.far2 {T : TypeId} {w : World} {B : Nat} {v : Value} {l : List Nat} (h : Own32 T w B v l) {g : Nat} (hg : g < B) (x y : Value) : Own32 T ((w.setCell ⟨g, 0, none⟩ x).setCell ⟨g, 1, none⟩ y) B v l :=
 (h.far (p := ⟨g, 0, none⟩) hg x).far (p := ⟨g, 1, none⟩) hg y
theorem Row.far2 {W : World} {h : Nat} {t : TypeId} {cs : List Value} (r : Row W h t cs) {g : Nat} (hg : h ≠ g) (x y : Value) : Row ((W.setCell ⟨g, 0, none⟩ x).setCell ⟨g, 1, none⟩ y) h t cs :=
 (r.far (p := ⟨g, 0, none⟩) hg x).far (p := ⟨g, 1, none⟩) hg y
set_option maxHeartbeats 1000000 in
theorem wcmp_calls (w : World) (va vb : Value) (x y : Int) (k m : Nat) (hx : RawI w va x k) (hy : RawI w vb y m) (hk : k <= 1000000000) (hm : m <= 1000000000) :
 Calls Tryz.prog 124 #[va, vb] w (RetV w (.int .i64 (cmpZ x y))) := by
 have HX := hide hx; have HY := hide hy
 obtain ⟨n1, A1, m1, c1, l1, rfl, hu1, hz1, hl1⟩ := hx
 obtain ⟨n2, A2, m2, c2, l2, rfl, hu2, hz2, hl2⟩ := hy
 clear hu1 hu2 hz1 hz2 hl1 hl2
 go_enter Tryz.func124, Tryz.ntmps124
 go_wp2_with fail
 have hb0 : Later w (((w.alloc (Obj.cells #[Value.bool n1, Value.slice A1 m1 c1] 65)).alloc (Obj.cells #[Value.bool n2, Value.slice A2 m2 c2] 65)).drew) := (((Later.refl w).alloc _).alloc _).drew
 have r1 := ((Row.new w 65 [.bool n1, .slice A1 m1 c1]).alloc (Obj.cells #[Value.bool n2, Value.slice A2 m2 c2] 65)).drew
 have r2 := (Row.new (w.alloc (Obj.cells #[Value.bool n1, Value.slice A1 m1 c1] 65)) 65 [.bool n2, .slice A2 m2 c2]).drew
 rw [World.size_alloc] at r2
 have R1 := hide r1; have R2 := hide r2; have B0 := hide hb0
 clear r1 r2 hb0
 rename_i K hK
 have key : ∀ (W : World) (P1 : Option Addr) (q1 d1 : Nat) (P2 : Option Addr) (q2 d2 : Nat), Row W w.heap.size 65 [.bool (decide (x < 0)), .slice P1 q1 d1] -> Row W (w.heap.size + 1) 65 [.bool (decide (y < 0)), .slice P2 q2 d2] ->
  U32s W (.slice P1 q1 d1) (limbs x.natAbs) -> U32s W (.slice P2 q2 d2) (limbs y.natAbs) -> Later w W ->
  K { tmps := #[.agg #[.bool n1, .slice A1 m1 c1], .agg #[.bool n2, .slice A2 m2 c2], .pointer (some ⟨w.heap.size, 0, none⟩), .pointer (some ⟨w.heap.size + 1, 0, none⟩), .int .i64 0,
       .agg #[.bool n1, .slice A1 m1 c1], .agg #[.bool (decide (x < 0)), .slice P1 q1 d1], .agg #[.bool n2, .slice A2 m2 c2], .agg #[.bool (decide (y < 0)), .slice P2 q2 d2],
       undef, undef, undef, undef, undef, undef, undef, undef, undef, undef, undef, undef, undef, undef, undef, undef, undef, undef, undef, undef, undef, undef, undef, undef, undef, undef, undef, undef, undef], defers := [] } W := by
  intro W P1 q1 d1 P2 q2 d2 ra rb u1 u2 hL
  refine hK _ _ ?_
  have hlx := HX.out.limbs_le; have hly := HY.out.limbs_le
  have U1 := hide u1; have U2 := hide u2
  clear u1 u2 hK R1 R2 B0 HX HY
  by_cases hx : x < 0
  ·rw [show decide (x < 0) = true by simpa using hx] at ra
   rw [show decide (x < 0) = true by simpa using hx]
   by_cases hy : y < 0
   ·rw [show decide (y < 0) = true by simpa using hy] at rb
    rw [show decide (y < 0) = true by simpa using hy]
    obtain ⟨e1, e2, e3, e4⟩ := row_cells2 ra
    obtain ⟨e5, e6, e7, e8⟩ := row_cells2 rb
    have hv := hide (cmpZ_neg hx hy)
    clear ra rb
    go_wp2_with fail
    refine (cmp_calls _ _ _ _ _ U2.out U1.out (by omega) (by omega)).mono ?_
    rintro e w' ⟨rfl, hb⟩
    rw [val_limbs, val_limbs, hv.out]
    go_wp2_with fail
    go_ret
    exact ⟨rfl, hL.trans hb⟩
   ·rw [show decide (y < 0) = false by simpa using hy] at rb
    rw [show decide (y < 0) = false by simpa using hy]
    obtain ⟨e1, e2, e3, e4⟩ := row_cells2 ra
    obtain ⟨e5, e6, e7, e8⟩ := row_cells2 rb
    have hv := hide (show cmpZ x y = -1 by unfold cmpZ; rw [if_pos (by omega)])
    clear ra rb
    go_wp2_with fail
    go_ret
    exact ⟨by rw [hv.out]; rfl, hL⟩
  ·rw [show decide (x < 0) = false by simpa using hx] at ra
   rw [show decide (x < 0) = false by simpa using hx]
   by_cases hy : y < 0
   ·rw [show decide (y < 0) = true by simpa using hy] at rb
    rw [show decide (y < 0) = true by simpa using hy]
    obtain ⟨e1, e2, e3, e4⟩ := row_cells2 ra
    obtain ⟨e5, e6, e7, e8⟩ := row_cells2 rb
    have hv := hide (show cmpZ x y = 1 by unfold cmpZ; rw [if_neg (by omega), if_pos (by omega)])
    clear ra rb
    go_wp2_with fail
    go_ret
    exact ⟨by rw [hv.out]; rfl, hL⟩
   ·rw [show decide (y < 0) = false by simpa using hy] at rb
    rw [show decide (y < 0) = false by simpa using hy]
    obtain ⟨e1, e2, e3, e4⟩ := row_cells2 ra
    obtain ⟨e5, e6, e7, e8⟩ := row_cells2 rb
    have hv := hide (cmpZ_pos hx hy)
    clear ra rb
    go_wp2_with fail
    refine (cmp_calls _ _ _ _ _ U1.out U2.out (by omega) (by omega)).mono ?_
    rintro e w' ⟨rfl, hb⟩
    rw [val_limbs, val_limbs, hv.out]
    go_wp2_with fail
    go_ret
    exact ⟨rfl, hL.trans hb⟩
 go_region_with (first
  | ((with_reducible refine (plain_calls _ _ x k (HX.out.later B0.out) (by omega)).mono ?_); rintro e w1 ⟨v1, rfl, o1, b1⟩; obtain ⟨P1, q1, d1, rfl, o1⟩ := o1; have h1 := row_cells2 (R1.out.later b1); have h2 := row_cells2 (R2.out.later b1); obtain ⟨e1, e2, e3, e4⟩ := h1; obtain ⟨e5, e6, e7, e8⟩ := h2)
  | ((with_reducible refine (plain_calls _ _ y m (HY.out.later B0.out) (by omega)).mono ?_); rintro e w1 ⟨v1, rfl, o1, b1⟩; obtain ⟨P1, q1, d1, rfl, o1⟩ := o1; have h1 := row_cells2 (R1.out.later b1); have h2 := row_cells2 (R2.out.later b1); obtain ⟨e1, e2, e3, e4⟩ := h1; obtain ⟨e5, e6, e7, e8⟩ := h2)
  | ((with_reducible refine (plain_calls _ _ x k (HX.out.later (B0.out.trans b1)) (by omega)).mono ?_); rintro e w2 ⟨v2, rfl, o2, b2⟩; obtain ⟨P2, q2, d2, rfl, o2⟩ := o2; have h1 := row_cells2 (R1.out.later (b1.trans b2)); have h2 := row_cells2 (R2.out.later (b1.trans b2)); obtain ⟨g1, g2, g3, g4⟩ := h1; obtain ⟨g5, g6, g7, g8⟩ := h2)
  | ((with_reducible refine (plain_calls _ _ y m (HY.out.later (B0.out.trans b1)) (by omega)).mono ?_); rintro e w2 ⟨v2, rfl, o2, b2⟩; obtain ⟨P2, q2, d2, rfl, o2⟩ := o2; have h1 := row_cells2 (R1.out.later (b1.trans b2)); have h2 := row_cells2 (R2.out.later (b1.trans b2)); obtain ⟨g1, g2, g3, g4⟩ := h1; obtain ⟨g5, g6, g7, g8⟩ := h2))
 all_goals show K _ _
 all_goals
  have hL := (B0.out.trans b1).trans b2
  have ra := ((R1.out.later (b1.trans b2)))
  have rb := ((R2.out.later (b1.trans b2)))
  have hs := b1.size
  simp only [World.size_drew, World.size_alloc] at hs
  first
  | (refine key _ _ _ _ _ _ _ (Row.far2 (ra.two _ _) (by omega) _ _) (Row.two (Row.far2 rb (by omega) _ _) _ _) ?_ ?_ ((hL.two (by omega) _ _).two (by omega) _ _)
     ·exact (((o1.later b2).far2 (by simp; try omega) _ _).far2 (by simp; try omega) _ _).reads
     ·exact ((o2.far2 (by omega) _ _).far2 (by omega) _ _).reads)
  | (refine key _ _ _ _ _ _ _ (Row.far2 (ra.two _ _) (by omega) _ _) (Row.two (Row.far2 rb (by omega) _ _) _ _) ?_ ?_ ((hL.two (by omega) _ _).two (by omega) _ _)
     ·exact ((o2.far2 (by omega) _ _).far2 (by omega) _ _).reads
     ·exact (((o1.later b2).far2 (by simp; try omega) _ _).far2 (by simp; try omega) _ _).reads)
end Go.Proofs.YtncbebfhakcgdaaGreat
namespace Go.Proofs.YtncbebfhakcgdaaGreat
open Go.RowKit Go.Shelf
theorem sgn_not (b : Bool) (n : Nat) : sgn (!b) n = - sgn b n := by cases b <;> simp [sgn]
set_option maxHeartbeats 1000000 in
theorem not_calls (w : World) (v : Value) (z : Int) (k : Nat) (h : RawI w v z k) (hk : k <= 2000000000) :
 Calls Tryz.prog 178 #[v] w (Ret w fun w' v => OwnI w' w.heap.size v (-z)) := by
 obtain ⟨neg, A, n, c, l, rfl, hu, hz, hl⟩ := h
 obtain ⟨y, hy⟩ : ∃ y, y = -z := ⟨_, rfl⟩
 rw [<- hy]
 have hz' : sgn (!neg) (val l) = y := by rw [sgn_not, <- hz, hy]
 have HZ := hide hz'; clear hz hz' hy
 go_enter Tryz.func178, Tryz.ntmps178
 go_wp2_with fail
 have hb0 : Later w ((w.alloc (Obj.cells #[Value.bool neg, Value.slice A n c] 65)).alloc (Obj.cells #[Value.bool false, Value.slice none 0 0] 65)) := ((Later.refl w).alloc _).alloc _
 refine (of_calls _ (!neg) _ l (hu.later hb0) (by omega)).mono ?_
 rintro e w1 ⟨v1, rfl, o1, b1⟩
 rw [HZ.out] at o1
 have hrow := Row.new (w.alloc (Obj.cells #[Value.bool neg, Value.slice A n c] 65)) 65 [.bool false, .slice none 0 0]
 rw [World.size_alloc] at hrow
 have hrow := hrow.later b1
 obtain ⟨c0, c1, f0, f1⟩ := row_cells2 hrow
 have hL := hb0.trans b1
 clear hb0
 obtain ⟨A1, n1, c1', rfl, o2⟩ := o1
 have HO := hide o2; clear o2
 go_wp2_with fail
 refine bodyPost_ret (results_int rfl rfl (hrow.two _ _)) rfl ?_
 refine ⟨_, rfl, ?_, hL.two (by omega) _ _⟩
 refine OwnI.weaken (OwnI.two (g := w.heap.size + 1) ⟨A1, n1, c1', rfl, HO.out⟩ ?_ _ _) ?_ <;> simp <;> omega
theorem limbs_mul_len {a b : Nat} {k m : Nat} (ha : (limbs a).length <= k) (hb : (limbs b).length <= m) : (limbs (a * b)).length <= k + m := by
 refine length_limbs_le ?_
 rw [Nat.pow_add]
 have h1 := Nat.lt_of_lt_of_le (lt_of_length_limbs a) (Nat.pow_le_pow_right (by omega) ha)
 have h2 := Nat.lt_of_lt_of_le (lt_of_length_limbs b) (Nat.pow_le_pow_right (by omega) hb)
 exact Nat.mul_lt_mul'' h1 h2
theorem sgn_mul (a b : Bool) (m n : Nat) : sgn (!(a == b)) (m * n) = sgn a m * sgn b n := by
 cases a <;> cases b <;> simp [sgn, Int.neg_mul, Int.mul_neg]
set_option maxHeartbeats 1000000 in
theorem wmul_calls (w : World) (va vb : Value) (x y : Int) (k m : Nat) (hx : RawI w va x k) (hy : RawI w vb y m) (hk : k <= 500000000) (hm : m <= 500000000) :
 Calls Tryz.prog 125 #[va, vb] w (Ret w fun w' v => OwnI w' w.heap.size v (x * y)) := by
 obtain ⟨n1, A1, m1, c1, l1, rfl, hu1, hz1, hl1⟩ := hx
 obtain ⟨n2, A2, m2, c2, l2, rfl, hu2, hz2, hl2⟩ := hy
 have hz : sgn (!(n1 == n2)) (val l1 * val l2) = x * y := by rw [sgn_mul, <- hz1, <- hz2]
 have hln := limbs_mul_len (Nat.le_trans (length_limbs_val hu1.1) hl1) (Nat.le_trans (length_limbs_val hu2.1) hl2)
 have HZ := hide hz; have HU1 := hide hu1; have HU2 := hide hu2
 clear hz hz1 hz2 hu1 hu2
 go_enter Tryz.func125, Tryz.ntmps125
 go_wp2_with fail
 obtain ⟨W0, hW0⟩ : ∃ W0, W0 = (((w.alloc (Obj.cells #[Value.bool n1, Value.slice A1 m1 c1] 65)).alloc (Obj.cells #[Value.bool n2, Value.slice A2 m2 c2] 65)).alloc (Obj.cells #[Value.bool false, Value.slice none 0 0] 65)) := ⟨_, rfl⟩
 have hb0 : Later w W0.drew := by rw [hW0]; exact (((Later.refl w).alloc _).alloc _).alloc _ |>.drew
 have r1 : Row W0.drew w.heap.size 65 [.bool n1, .slice A1 m1 c1] := by rw [hW0]; exact (((Row.new w _ _).alloc _).alloc _).drew
 have r2 : Row W0.drew (w.heap.size + 1) 65 [.bool n2, .slice A2 m2 c2] := by
  rw [hW0]
  have := Row.new (w.alloc (Obj.cells #[Value.bool n1, Value.slice A1 m1 c1] 65)) 65 [.bool n2, .slice A2 m2 c2]
  rw [World.size_alloc] at this; exact (this.alloc _).drew
 have r3 : Row W0.drew (w.heap.size + 2) 65 [.bool false, .slice none 0 0] := by
  rw [hW0]
  have := Row.new ((w.alloc (Obj.cells #[Value.bool n1, Value.slice A1 m1 c1] 65)).alloc (Obj.cells #[Value.bool n2, Value.slice A2 m2 c2] 65)) 65 [.bool false, .slice none 0 0]
  rw [World.size_alloc, World.size_alloc] at this; exact this.drew
 have hsz : W0.drew.heap.size = w.heap.size + 3 := by rw [hW0]; simp
 rw [<- hW0]
 clear hW0
 have R1 := hide r1; have R2 := hide r2; have R3 := hide r3; have B0 := hide hb0
 have hS : ∀ w', Later W0.drew w' -> w'.cell? ⟨w.heap.size, 0, none⟩ = some (.bool n1) /\ w'.cell? ⟨w.heap.size, 1, none⟩ = some (.slice A1 m1 c1) /\ w'.cell? ⟨w.heap.size + 1, 0, none⟩ = some (.bool n2) /\ w'.cell? ⟨w.heap.size + 1, 1, none⟩ = some (.slice A2 m2 c2) :=
  fun w' hb => ⟨(r1.later hb).cell rfl, (r1.later hb).cell rfl, (r2.later hb).cell rfl, (r2.later hb).cell rfl⟩
 have hT : ∀ w' u1 u2, Later W0.drew w' -> ((w'.setCell ⟨w.heap.size + 2, 0, none⟩ u1).setCell ⟨w.heap.size + 2, 1, none⟩ u2).cell? ⟨w.heap.size, 0, none⟩ = some (.bool n1) /\ ((w'.setCell ⟨w.heap.size + 2, 0, none⟩ u1).setCell ⟨w.heap.size + 2, 1, none⟩ u2).cell? ⟨w.heap.size, 1, none⟩ = some (.slice A1 m1 c1) /\ ((w'.setCell ⟨w.heap.size + 2, 0, none⟩ u1).setCell ⟨w.heap.size + 2, 1, none⟩ u2).cell? ⟨w.heap.size + 1, 0, none⟩ = some (.bool n2) /\ ((w'.setCell ⟨w.heap.size + 2, 0, none⟩ u1).setCell ⟨w.heap.size + 2, 1, none⟩ u2).cell? ⟨w.heap.size + 1, 1, none⟩ = some (.slice A2 m2 c2) :=
  fun w' u1 u2 hb => ⟨((r1.later hb).far2 (by omega) u1 u2).cell rfl, ((r1.later hb).far2 (by omega) u1 u2).cell rfl, ((r2.later hb).far2 (by omega) u1 u2).cell rfl, ((r2.later hb).far2 (by omega) u1 u2).cell rfl⟩
 have HS := hide hS; have HT := hide hT
 clear r1 r2 r3 hb0 hS hT
 rename_i K hK
 go_region_held3 (fun w' => w'.cell? ⟨w.heap.size, 0, none⟩ = some (.bool n1) /\ w'.cell? ⟨w.heap.size, 1, none⟩ = some (.slice A1 m1 c1) /\ w'.cell? ⟨w.heap.size + 1, 0, none⟩ = some (.bool n2) /\ w'.cell? ⟨w.heap.size + 1, 1, none⟩ = some (.slice A2 m2 c2))
  (first | exact HS.out _ (Later.refl _) | exact HS.out _ b1 | exact HS.out _ (b1.trans b2) | exact HT.out _ _ _ (b1.trans b2))
  (first
   | ((with_reducible refine (mul_calls _ _ _ l1 l2 (HU1.out.later B0.out) (HU2.out.later B0.out) (by omega) (by omega)).mono ?_); rintro e w1 ⟨v1, rfl, o1, b1⟩; obtain ⟨P1, d1, rfl, -, -, -, -⟩ := o1.reads.form)
   | ((with_reducible refine (of_calls _ _ _ _ o1.reads (by omega)).mono ?_); rintro e w2 ⟨v2, rfl, o2, b2⟩; rw [val_limbs, HZ.out] at o2; obtain ⟨P2, q2, d2, rfl, o2⟩ := o2; obtain ⟨e1, e2, e3, e4⟩ := row_cells2 (R3.out.later (b1.trans b2))))
 show K _ _
 refine hK _ _ ?_
 have hs1 := b1.size
 have hbb := B0.out.trans (b1.trans b2)
 have hrow := R3.out.later (b1.trans b2)
 have HO := hide o2
 clear o1 o2 e1 e2 e3 e4 hK
 go_wp2_with fail
 refine bodyPost_ret (results_int rfl rfl (hrow.two _ _)) rfl ?_
 refine ⟨_, rfl, ?_, hbb.two (by omega) _ _⟩
 exact (OwnI.two (g := w.heap.size + 2) ⟨P2, q2, d2, rfl, HO.out⟩ (by omega) _ _).weaken (by omega)
end Go.Proofs.YtncbebfhakcgdaaGreat
namespace Go.Proofs.YtncbebfhakcgdaaGreat
open Go.RowKit Go.Shelf
theorem limbs_add_len {a b : Nat} {k m : Nat} (ha : (limbs a).length <= k) (hb : (limbs b).length <= m) : (limbs (a + b)).length <= k + m + 1 := by
 refine length_limbs_le ?_
 have h1 := Nat.lt_of_lt_of_le (lt_of_length_limbs a) (Nat.pow_le_pow_right (by omega) ha)
 have h2 := Nat.lt_of_lt_of_le (lt_of_length_limbs b) (Nat.pow_le_pow_right (by omega) hb)
 have h3 : (4294967296 : Nat) ^ k <= 4294967296 ^ (k + m) := Nat.pow_le_pow_right (by omega) (by omega)
 have h4 : (4294967296 : Nat) ^ m <= 4294967296 ^ (k + m) := Nat.pow_le_pow_right (by omega) (by omega)
 rw [Nat.pow_succ]
 omega
theorem add_same {x y : Int} (h : decide (x < 0) = decide (y < 0)) : sgn (decide (x < 0)) (x.natAbs + y.natAbs) = x + y := by
 by_cases hx : x < 0 <;> by_cases hy : y < 0 <;> simp [hx, hy, sgn] at h ⊢ <;> omega
theorem add_big {x y : Int} (h : decide (x < 0) ≠ decide (y < 0)) (hle : y.natAbs <= x.natAbs) : sgn (decide (x < 0)) (x.natAbs - y.natAbs) = x + y := by
 by_cases hx : x < 0 <;> by_cases hy : y < 0 <;> simp [hx, hy, sgn] at h ⊢ <;> omega
set_option maxHeartbeats 2000000 in
theorem wadd_calls (w : World) (va vb : Value) (x y : Int) (k m : Nat) (hx : RawI w va x k) (hy : RawI w vb y m) (hk : k <= 500000000) (hm : m <= 500000000) :
 Calls Tryz.prog 177 #[va, vb] w (Ret w fun w' v => OwnI w' w.heap.size v (x + y)) := by
 obtain ⟨z, hz⟩ : ∃ z, z = x + y := ⟨_, rfl⟩
 rw [<- hz]
 have hlx := hx.limbs_le
 have hly := hy.limbs_le
 have HX := hide hx; have HY := hide hy; have HZ := hide hz
 obtain ⟨n1, A1, m1, c1, l1, rfl, hu1, hz1, hl1⟩ := hx
 obtain ⟨n2, A2, m2, c2, l2, rfl, hu2, hz2, hl2⟩ := hy
 clear hu1 hu2 hz1 hz2 hl1 hl2 hz
 go_enter Tryz.func177, Tryz.ntmps177
 go_wp2_with fail
 obtain ⟨W0, hW0⟩ : ∃ W0, W0 = (((w.alloc (Obj.cells #[Value.bool n1, Value.slice A1 m1 c1] 65)).alloc (Obj.cells #[Value.bool n2, Value.slice A2 m2 c2] 65)).alloc (Obj.cells #[Value.bool false, Value.slice none 0 0] 65)) := ⟨_, rfl⟩
 have hb0 : Later w W0.drew := by rw [hW0]; exact (((Later.refl w).alloc _).alloc _).alloc _ |>.drew
 have r1 : Row W0.drew w.heap.size 65 [.bool n1, .slice A1 m1 c1] := by rw [hW0]; exact (((Row.new w _ _).alloc _).alloc _).drew
 have r2 : Row W0.drew (w.heap.size + 1) 65 [.bool n2, .slice A2 m2 c2] := by
  rw [hW0]
  have := Row.new (w.alloc (Obj.cells #[Value.bool n1, Value.slice A1 m1 c1] 65)) 65 [.bool n2, .slice A2 m2 c2]
  rw [World.size_alloc] at this; exact (this.alloc _).drew
 have r3 : Row W0.drew (w.heap.size + 2) 65 [.bool false, .slice none 0 0] := by
  rw [hW0]
  have := Row.new ((w.alloc (Obj.cells #[Value.bool n1, Value.slice A1 m1 c1] 65)).alloc (Obj.cells #[Value.bool n2, Value.slice A2 m2 c2] 65)) 65 [.bool false, .slice none 0 0]
  rw [World.size_alloc, World.size_alloc] at this; exact this.drew
 have hsz : W0.drew.heap.size = w.heap.size + 3 := by rw [hW0]; simp
 obtain ⟨d1, d2, d3, d4⟩ := row_cells2 r1
 obtain ⟨d5, d6, d7, d8⟩ := row_cells2 r2
 rw [<- hW0]
 clear hW0
 have R1 := hide r1; have R2 := hide r2; have R3 := hide r3; have B0 := hide hb0
 clear r1 r2 r3 hb0
 rename_i K hK
 have key : ∀ (W : World) (P1 : Option Addr) (q1 d1 : Nat) (P2 : Option Addr) (q2 d2 : Nat), Row W w.heap.size 65 [.bool (decide (x < 0)), .slice P1 q1 d1] -> Row W (w.heap.size + 1) 65 [.bool (decide (y < 0)), .slice P2 q2 d2] ->
  Row W (w.heap.size + 2) 65 [.bool false, .slice none 0 0] -> U32s W (.slice P1 q1 d1) (limbs x.natAbs) -> U32s W (.slice P2 q2 d2) (limbs y.natAbs) -> Later w W -> w.heap.size + 3 <= W.heap.size ->
  K { tmps := #[.agg #[.bool n1, .slice A1 m1 c1], .agg #[.bool n2, .slice A2 m2 c2], .pointer (some ⟨w.heap.size, 0, none⟩), .pointer (some ⟨w.heap.size + 1, 0, none⟩), .pointer (some ⟨w.heap.size + 2, 0, none⟩), undef, undef, undef, undef,
       .agg #[.bool n1, .slice A1 m1 c1], .agg #[.bool (decide (x < 0)), .slice P1 q1 d1], .agg #[.bool n2, .slice A2 m2 c2], .agg #[.bool (decide (y < 0)), .slice P2 q2 d2],
       undef, undef, undef, undef, undef, undef, undef, undef, undef, undef, undef, undef, undef, undef, undef, undef, undef, undef, undef, undef, undef, undef, undef, undef, undef, undef,
       undef, undef, undef, undef, undef, undef, undef, undef, undef, undef, undef, undef], defers := [] } W := by
  intro W P1 q1 d1' P2 q2 d2' ra rb rc u1 u2 hL hsW
  refine hK _ _ ?_
  clear hK R1 R2 R3 B0 HX HY d1 d2 d3 d4 d5 d6 d7 d8 hsz W0
  obtain ⟨s, hs⟩ : ∃ s, s = decide (x < 0) := ⟨_, rfl⟩
  obtain ⟨t, ht⟩ : ∃ t, t = decide (y < 0) := ⟨_, rfl⟩
  rw [<- hs] at ra ⊢; rw [<- ht] at rb ⊢
  obtain ⟨e1, e2, e3, e4⟩ := row_cells2 ra
  obtain ⟨e5, e6, e7, e8⟩ := row_cells2 rb
  obtain ⟨e9, e10, e11, e12⟩ := row_cells2 rc
  by_cases hst : s = t
  ·subst hst
   have hv := add_same (hs.symm.trans ht)
   rw [<- hs, <- HZ.out] at hv
   have HV := hide hv
   have hln := limbs_add_len hlx hly
   have hq : (s == s) = true := by simp
   have U1 := hide (u1.later (Later.refl W).drew); have U2 := hide (u2.later (Later.refl W).drew)
   have R1 := hide ra.drew; have R2 := hide rb.drew; have R3 := hide rc.drew
   have hS : ∀ w', Later W.drew w' -> w'.cell? ⟨w.heap.size, 0, none⟩ = some (.bool s) /\ w'.cell? ⟨w.heap.size, 1, none⟩ = some (.slice P1 q1 d1') /\ w'.cell? ⟨w.heap.size + 1, 0, none⟩ = some (.bool s) /\ w'.cell? ⟨w.heap.size + 1, 1, none⟩ = some (.slice P2 q2 d2') :=
    fun w' hb => ⟨(ra.drew.later hb).cell rfl, (ra.drew.later hb).cell rfl, (rb.drew.later hb).cell rfl, (rb.drew.later hb).cell rfl⟩
   have hT : ∀ w' u1 u2, Later W.drew w' -> ((w'.setCell ⟨w.heap.size + 2, 0, none⟩ u1).setCell ⟨w.heap.size + 2, 1, none⟩ u2).cell? ⟨w.heap.size, 0, none⟩ = some (.bool s) /\ ((w'.setCell ⟨w.heap.size + 2, 0, none⟩ u1).setCell ⟨w.heap.size + 2, 1, none⟩ u2).cell? ⟨w.heap.size, 1, none⟩ = some (.slice P1 q1 d1') /\ ((w'.setCell ⟨w.heap.size + 2, 0, none⟩ u1).setCell ⟨w.heap.size + 2, 1, none⟩ u2).cell? ⟨w.heap.size + 1, 0, none⟩ = some (.bool s) /\ ((w'.setCell ⟨w.heap.size + 2, 0, none⟩ u1).setCell ⟨w.heap.size + 2, 1, none⟩ u2).cell? ⟨w.heap.size + 1, 1, none⟩ = some (.slice P2 q2 d2') :=
    fun w' u1 u2 hb => ⟨((ra.drew.later hb).far2 (by omega) u1 u2).cell rfl, ((ra.drew.later hb).far2 (by omega) u1 u2).cell rfl, ((rb.drew.later hb).far2 (by omega) u1 u2).cell rfl, ((rb.drew.later hb).far2 (by omega) u1 u2).cell rfl⟩
   have HS := hide hS; have HT := hide hT
   have HSW := hide hsW
   clear ra rb rc u1 u2 hS hT hv hs ht
   go_wp2_with fail
   rename_i K2 hK2
   go_region_held3 (fun w' => w'.cell? ⟨w.heap.size, 0, none⟩ = some (.bool s) /\ w'.cell? ⟨w.heap.size, 1, none⟩ = some (.slice P1 q1 d1') /\ w'.cell? ⟨w.heap.size + 1, 0, none⟩ = some (.bool s) /\ w'.cell? ⟨w.heap.size + 1, 1, none⟩ = some (.slice P2 q2 d2'))
    (first | exact HS.out _ (Later.refl _) | exact HS.out _ b1 | exact HS.out _ (b1.trans b2) | exact HT.out _ _ _ (b1.trans b2))
    (first
     | ((with_reducible refine (add_calls _ _ _ _ _ U1.out U2.out (by omega) (by omega)).mono ?_); rintro e w1 ⟨v1, rfl, o1, b1⟩; rw [val_limbs, val_limbs] at o1; obtain ⟨Q1, f1, rfl, -, -, -, -⟩ := o1.reads.form)
     | ((with_reducible refine (of_calls _ _ _ _ o1.reads (by omega)).mono ?_); rintro e w2 ⟨v2, rfl, o2, b2⟩; rw [val_limbs, HV.out] at o2; obtain ⟨Q2, q3, f2, rfl, o2⟩ := o2; obtain ⟨g1, g2, g3, g4⟩ := row_cells2 (R3.out.later (b1.trans b2))))
   show K2 _ _
   refine hK2 _ _ ?_
   have hbb := (Later.refl W).drew.trans (b1.trans b2)
   have hrow := R3.out.later (b1.trans b2)
   have hs1 : w.heap.size + 3 <= w1.heap.size := Nat.le_trans hsW b1.size
   have HO := hide o2
   clear o1 o2 g1 g2 g3 g4 hK2
   go_wp2_with fail
   refine bodyPost_ret (results_int rfl rfl (hrow.two _ _)) rfl ?_
   refine ⟨_, rfl, ?_, (hL.trans hbb).two (by omega) _ _⟩
   exact (OwnI.two (g := w.heap.size + 2) ⟨Q2, q3, f2, rfl, HO.out⟩ (by omega) _ _).weaken (by omega)
  ·have hq : (s == t) = false := by simpa using hst
   have U1 := hide u1; have U2 := hide u2
   have R1 := hide ra; have R2 := hide rb; have R3 := hide rc
   by_cases hle : y.natAbs <= x.natAbs
   ·have hv := add_big (x := x) (y := y) (by rw [<- hs, <- ht]; exact hst) hle
    rw [<- hs, <- HZ.out] at hv
    have HV := hide hv
    have hln : (limbs (x.natAbs - y.natAbs)).length <= k := Nat.le_trans (length_limbs_mono (by omega)) hlx
    clear ra rb rc u1 u2 hv hs ht
    go_wp2_with fail
    refine (sub_calls _ _ _ _ _ U1.out U2.out (by omega) (by omega) (by rw [val_limbs, val_limbs]; exact hle)).mono ?_
    rintro e w1 ⟨v1, ok, rfl, ⟨rfl, o1⟩, b1⟩
    rw [val_limbs, val_limbs] at o1
    obtain ⟨g1, g2, g3, g4⟩ := row_cells2 (R1.out.later b1)
    obtain ⟨g5, g6, g7, g8⟩ := row_cells2 (R2.out.later b1)
    go_wp2_with fail
    refine (of_calls _ _ _ _ o1.reads (by omega)).mono ?_
    rintro e w2 ⟨v2, rfl, o2, b2⟩
    rw [val_limbs, HV.out] at o2
    obtain ⟨Q2, q3, f2, rfl, o2⟩ := o2
    have hbb := b1.trans b2
    have hrow := R3.out.later (b1.trans b2)
    obtain ⟨h1, h2, h3, h4⟩ := row_cells2 hrow
    have hs1 : w.heap.size + 3 <= w1.heap.size := Nat.le_trans hsW b1.size
    have HO := hide o2
    clear o1 o2
    go_wp2_with fail
    refine bodyPost_ret (results_int rfl rfl (hrow.two _ _)) rfl ?_
    refine ⟨_, rfl, ?_, (hL.trans hbb).two (by omega) _ _⟩
    exact (OwnI.two (g := w.heap.size + 2) ⟨Q2, q3, f2, rfl, HO.out⟩ (by omega) _ _).weaken (by omega)
   ·have hv := add_big (x := y) (y := x) (by rw [<- hs, <- ht]; exact fun e => hst e.symm) (by omega)
    rw [<- ht, Int.add_comm, <- HZ.out] at hv
    have HV := hide hv
    have hln : (limbs (y.natAbs - x.natAbs)).length <= m := Nat.le_trans (length_limbs_mono (by omega)) hly
    clear ra rb rc u1 u2 hv hs ht
    go_wp2_with fail
    refine (sub_less _ _ _ _ _ U1.out U2.out (by omega) (by omega) (by rw [val_limbs, val_limbs]; omega)).mono ?_
    rintro e w0 ⟨v0, ok, rfl, ⟨rfl, rfl⟩, b0⟩
    obtain ⟨i1, i2, i3, i4⟩ := row_cells2 (R1.out.later b0)
    obtain ⟨i5, i6, i7, i8⟩ := row_cells2 (R2.out.later b0)
    go_wp2_with fail
    refine (sub_calls _ _ _ _ _ (U2.out.later b0) (U1.out.later b0) (by omega) (by omega) (by rw [val_limbs, val_limbs]; omega)).mono ?_
    rintro e w1 ⟨v1, ok, rfl, ⟨rfl, o1⟩, b1'⟩
    have b1 := b0.trans b1'
    rw [val_limbs, val_limbs] at o1
    obtain ⟨g1, g2, g3, g4⟩ := row_cells2 (R1.out.later b1)
    obtain ⟨g5, g6, g7, g8⟩ := row_cells2 (R2.out.later b1)
    go_wp2_with fail
    refine (of_calls _ _ _ _ o1.reads (by omega)).mono ?_
    rintro e w2 ⟨v2, rfl, o2, b2⟩
    rw [val_limbs, HV.out] at o2
    obtain ⟨Q2, q3, f2, rfl, o2⟩ := o2
    have hbb := b1.trans b2
    have hrow := R3.out.later (b1.trans b2)
    obtain ⟨h1, h2, h3, h4⟩ := row_cells2 hrow
    have hs1 : w.heap.size + 3 <= w1.heap.size := Nat.le_trans hsW b1.size
    have HO := hide o2
    clear o1 o2
    go_wp2_with fail
    refine bodyPost_ret (results_int rfl rfl (hrow.two _ _)) rfl ?_
    refine ⟨_, rfl, ?_, (hL.trans hbb).two (by omega) _ _⟩
    exact (OwnI.two (g := w.heap.size + 2) ⟨Q2, q3, f2, rfl, HO.out⟩ (by omega) _ _).weaken (by omega)
 go_region_with (first
  | ((with_reducible refine (plain_calls _ _ x k (HX.out.later B0.out) (by omega)).mono ?_); rintro e w1 ⟨v1, rfl, o1, b1⟩; obtain ⟨P1, q1, d1, rfl, o1⟩ := o1; have h1 := row_cells2 (R1.out.later b1); have h2 := row_cells2 (R2.out.later b1); obtain ⟨e1, e2, e3, e4⟩ := h1; obtain ⟨e5, e6, e7, e8⟩ := h2)
  | ((with_reducible refine (plain_calls _ _ y m (HY.out.later B0.out) (by omega)).mono ?_); rintro e w1 ⟨v1, rfl, o1, b1⟩; obtain ⟨P1, q1, d1, rfl, o1⟩ := o1; have h1 := row_cells2 (R1.out.later b1); have h2 := row_cells2 (R2.out.later b1); obtain ⟨e1, e2, e3, e4⟩ := h1; obtain ⟨e5, e6, e7, e8⟩ := h2)
  | ((with_reducible refine (plain_calls _ _ x k (HX.out.later (B0.out.trans b1)) (by omega)).mono ?_); rintro e w2 ⟨v2, rfl, o2, b2⟩; obtain ⟨P2, q2, d2, rfl, o2⟩ := o2; have h1 := row_cells2 (R1.out.later (b1.trans b2)); have h2 := row_cells2 (R2.out.later (b1.trans b2)); obtain ⟨g1, g2, g3, g4⟩ := h1; obtain ⟨g5, g6, g7, g8⟩ := h2)
  | ((with_reducible refine (plain_calls _ _ y m (HY.out.later (B0.out.trans b1)) (by omega)).mono ?_); rintro e w2 ⟨v2, rfl, o2, b2⟩; obtain ⟨P2, q2, d2, rfl, o2⟩ := o2; have h1 := row_cells2 (R1.out.later (b1.trans b2)); have h2 := row_cells2 (R2.out.later (b1.trans b2)); obtain ⟨g1, g2, g3, g4⟩ := h1; obtain ⟨g5, g6, g7, g8⟩ := h2))
 all_goals show K _ _
 all_goals
  have hL := (B0.out.trans b1).trans b2
  have ra := ((R1.out.later (b1.trans b2)))
  have rb := ((R2.out.later (b1.trans b2)))
  have rc := ((R3.out.later (b1.trans b2)))
  have hs := b1.size
  have hs2 := b2.size
  have hsz2 := hsz
  simp only [World.size_drew, World.size_alloc] at hs hsz2
  first
  | (refine key _ _ _ _ _ _ _ (Row.far2 (ra.two _ _) (by omega) _ _) (Row.two (Row.far2 rb (by omega) _ _) _ _) (Row.far2 (Row.far2 rc (by omega) _ _) (by omega) _ _) ?_ ?_ ((hL.two (by omega) _ _).two (by omega) _ _) ?_
     ·exact (((o1.later b2).far2 (by omega) _ _).far2 (by omega) _ _).reads
     ·exact ((o2.far2 (by omega) _ _).far2 (by omega) _ _).reads
     ·simp only [World.size_setCell]; omega)
  | (refine key _ _ _ _ _ _ _ (Row.far2 (ra.two _ _) (by omega) _ _) (Row.two (Row.far2 rb (by omega) _ _) _ _) (Row.far2 (Row.far2 rc (by omega) _ _) (by omega) _ _) ?_ ?_ ((hL.two (by omega) _ _).two (by omega) _ _) ?_
     ·exact ((o2.far2 (by omega) _ _).far2 (by omega) _ _).reads
     ·exact (((o1.later b2).far2 (by omega) _ _).far2 (by omega) _ _).reads
     ·simp only [World.size_setCell]; omega)
end Go.Proofs.YtncbebfhakcgdaaGreat
namespace Go.Proofs.YtncbebfhakcgdaaGreat
open Go.RowKit Go.Shelf
theorem boxes3 (w : World) (x y z : List Value) (t1 t2 t3 : TypeId) {W : World} (hW : W = ((w.alloc (Obj.cells x.toArray t1)).alloc (Obj.cells y.toArray t2)).alloc (Obj.cells z.toArray t3)) :
 Later w W /\ Row W w.heap.size t1 x /\ Row W (w.heap.size + 1) t2 y /\ Row W (w.heap.size + 2) t3 z /\ W.heap.size = w.heap.size + 3 := by
 subst hW
 refine ⟨(((Later.refl w).alloc _).alloc _).alloc _, ((Row.new w _ _).alloc _).alloc _, ?_, ?_, by simp⟩
 ·have := Row.new (w.alloc (Obj.cells x.toArray t1)) t2 y
  rw [World.size_alloc] at this; exact this.alloc _
 ·have := Row.new ((w.alloc (Obj.cells x.toArray t1)).alloc (Obj.cells y.toArray t2)) t3 z
  rw [World.size_alloc, World.size_alloc] at this; exact this
set_option maxHeartbeats 1000000 in
theorem wsub_calls (w : World) (va vb : Value) (x y : Int) (k m : Nat) (hx : RawI w va x k) (hy : RawI w vb y m) (hk : k <= 500000000) (hm : m <= 500000000) :
 Calls Tryz.prog 165 #[va, vb] w (Ret w fun w' v => OwnI w' w.heap.size v (x - y)) := by
 obtain ⟨z, hz⟩ : ∃ z, z = x - y := ⟨_, rfl⟩
 rw [<- hz]
 have hly := hy.limbs_le
 have HX := hide hx; have HY := hide hy; have HZ := hide hz
 obtain ⟨n1, A1, m1, c1, l1, rfl, hu1, hz1, hl1⟩ := hx
 obtain ⟨n2, A2, m2, c2, l2, rfl, hu2, hz2, hl2⟩ := hy
 clear hu1 hu2 hz1 hz2 hl1 hl2 hz
 go_enter Tryz.func165, Tryz.ntmps165
 go_wp2_with fail
 obtain ⟨W0, hW0⟩ : ∃ W0, W0 = (((w.alloc (Obj.cells #[Value.bool n1, Value.slice A1 m1 c1] 65)).alloc (Obj.cells #[Value.bool n2, Value.slice A2 m2 c2] 65)).alloc (Obj.cells #[Value.bool false, Value.slice none 0 0] 65)) := ⟨_, rfl⟩
 obtain ⟨hb0, r1, r2, r3, hsz⟩ := boxes3 w [.bool n1, .slice A1 m1 c1] [.bool n2, .slice A2 m2 c2] [.bool false, .slice none 0 0] 65 65 65 hW0
 rw [<- hW0]
 clear hW0
 have R1 := hide r1; have R2 := hide r2; have R3 := hide r3; have B0 := hide hb0.drew
 have hS : ∀ w', Later W0.drew w' -> w'.cell? ⟨w.heap.size, 0, none⟩ = some (.bool n1) /\ w'.cell? ⟨w.heap.size, 1, none⟩ = some (.slice A1 m1 c1) /\ w'.cell? ⟨w.heap.size + 1, 0, none⟩ = some (.bool n2) /\ w'.cell? ⟨w.heap.size + 1, 1, none⟩ = some (.slice A2 m2 c2) :=
  fun w' hb => ⟨(r1.drew.later hb).cell rfl, (r1.drew.later hb).cell rfl, (r2.drew.later hb).cell rfl, (r2.drew.later hb).cell rfl⟩
 have hT : ∀ w' u1 u2, Later W0.drew w' -> ((w'.setCell ⟨w.heap.size + 2, 0, none⟩ u1).setCell ⟨w.heap.size + 2, 1, none⟩ u2).cell? ⟨w.heap.size, 0, none⟩ = some (.bool n1) /\ ((w'.setCell ⟨w.heap.size + 2, 0, none⟩ u1).setCell ⟨w.heap.size + 2, 1, none⟩ u2).cell? ⟨w.heap.size, 1, none⟩ = some (.slice A1 m1 c1) /\ ((w'.setCell ⟨w.heap.size + 2, 0, none⟩ u1).setCell ⟨w.heap.size + 2, 1, none⟩ u2).cell? ⟨w.heap.size + 1, 0, none⟩ = some (.bool n2) /\ ((w'.setCell ⟨w.heap.size + 2, 0, none⟩ u1).setCell ⟨w.heap.size + 2, 1, none⟩ u2).cell? ⟨w.heap.size + 1, 1, none⟩ = some (.slice A2 m2 c2) :=
  fun w' u1 u2 hb => ⟨((r1.drew.later hb).far2 (by omega) u1 u2).cell rfl, ((r1.drew.later hb).far2 (by omega) u1 u2).cell rfl, ((r2.drew.later hb).far2 (by omega) u1 u2).cell rfl, ((r2.drew.later hb).far2 (by omega) u1 u2).cell rfl⟩
 have HS := hide hS; have HT := hide hT
 obtain ⟨y', hy'⟩ : ∃ y', y' = -y := ⟨_, rfl⟩
 have hnot : ∀ W, Later w W -> Calls Tryz.prog 178 #[.agg #[.bool n2, .slice A2 m2 c2]] W (Ret W fun w' v => OwnI w' W.heap.size v y') := fun W hb => by
  rw [hy']; exact not_calls W _ y m (HY.out.later hb) (by omega)
 have hzz : x + y' = z := by rw [HZ.out, hy', Int.sub_eq_add_neg]
 have hln : (limbs y'.natAbs).length <= m := by rw [hy', Int.natAbs_neg]; exact hly
 have HNOT := hide hnot; have HZZ := hide hzz; have HLN := hide hln
 clear r1 r2 r3 hb0 hS hT hnot hzz hln hy'
 rename_i K hK
 go_region_held3 (fun w' => w'.cell? ⟨w.heap.size, 0, none⟩ = some (.bool n1) /\ w'.cell? ⟨w.heap.size, 1, none⟩ = some (.slice A1 m1 c1) /\ w'.cell? ⟨w.heap.size + 1, 0, none⟩ = some (.bool n2) /\ w'.cell? ⟨w.heap.size + 1, 1, none⟩ = some (.slice A2 m2 c2))
  (first | exact HS.out _ (Later.refl _) | exact HS.out _ b1 | exact HS.out _ (b1.trans b2) | exact HT.out _ _ _ (b1.trans b2))
  (first
   | ((with_reducible refine (HNOT.out _ B0.out).mono ?_); rintro e w1 ⟨v1, rfl, o1, b1⟩; have q1 := o1.raw HLN.out; obtain ⟨P1, d0, d1, rfl, o1⟩ := o1)
   | ((with_reducible refine (wadd_calls _ _ _ x y' k m (HX.out.later (B0.out.trans b1)) q1 (by omega) (by omega)).mono ?_); rintro e w2 ⟨v2, rfl, o2, b2⟩; rw [HZZ.out] at o2; obtain ⟨P2, q2, d2, rfl, o2⟩ := o2; obtain ⟨e1, e2, e3, e4⟩ := row_cells2 (R3.out.drew.later (b1.trans b2))))
 show K _ _
 refine hK _ _ ?_
 have hs1 := b1.size
 have hsz1 : W0.drew.heap.size = w.heap.size + 3 := hsz
 have hbb := B0.out.trans (b1.trans b2)
 have hrow := R3.out.drew.later (b1.trans b2)
 have HO := hide o2
 clear o1 o2 e1 e2 e3 e4 hK q1
 go_wp2_with fail
 refine bodyPost_ret (results_int rfl rfl (hrow.two _ _)) rfl ?_
 refine ⟨_, rfl, ?_, hbb.two (by omega) _ _⟩
 exact (OwnI.two (g := w.heap.size + 2) ⟨P2, q2, d2, rfl, HO.out⟩ (by omega) _ _).weaken (by omega)
theorem low_limb (u : Nat) : ((u : Int) % 4294967296) = ((u % 4294967296 : Nat) : Int) := by omega
theorem high_limb {u : Nat} (h : u < 18446744073709551616) : ((u : Int) / 4294967296 % 4294967296) = ((u / 4294967296 : Nat) : Int) := by omega
theorem val_two (u : Nat) : val [u % 4294967296, u / 4294967296] = u := by simp; omega
theorem two_limbs (w : World) {u : Nat} (h : u < 18446744073709551616) (o : Obj) :
 U32s ((w.alloc o).alloc (Obj.cells #[Value.int IntKind.u32 ((u % 4294967296 : Nat) : Int), Value.int IntKind.u32 ((u / 4294967296 : Nat) : Int)] 160)) (.slice (some ⟨w.heap.size + 1, 0, none⟩) 2 2) [u % 4294967296, u / 4294967296] := by
 have hrow := Row.new (w.alloc o) 160 (nums .u32 [u % 4294967296, u / 4294967296])
 rw [World.size_alloc] at hrow
 exact ⟨AllLt.cons (by omega) (AllLt.cons (by omega) AllLt.nil), (OwnNums.of_row (B := 0) hrow (Nat.zero_le _) rfl (by simp [maxLen])).reads⟩
set_option maxHeartbeats 1000000 in
theorem wof_calls (w : World) (n : Int) (h1 : -9223372036854775808 <= n) (h2 : n < 9223372036854775808) :
 Calls Tryz.prog 176 #[.int .i64 n] w (Ret w fun w' v => OwnI w' w.heap.size v n) := by
 go_enter Tryz.func176, Tryz.ntmps176
 by_cases hn : n < 0
 ·have t1 : decide (n < 0) = true := by simpa using hn
  go_wp2_with fail
  obtain ⟨u, hu⟩ : ∃ u, u = n.natAbs := ⟨_, rfl⟩
  have hw : IntKind.u64.wrap (-IntKind.u64.wrap n) = (u : Int) := by simp [IntKind.wrap, IntKind.bits, IntKind.signed]; omega
  have hs : sgn true u = n := by simp [sgn]; omega
  have hul : u < 18446744073709551616 := by omega
  rw [hw, low_limb, high_limb hul]
  have hb0 : Later w ((w.alloc (Obj.cells #[Value.bool false, Value.slice none 0 0] 65)).alloc (Obj.cells #[Value.int IntKind.u32 ((u % 4294967296 : Nat) : Int), Value.int IntKind.u32 ((u / 4294967296 : Nat) : Int)] 160)) := ((Later.refl w).alloc _).alloc _
  refine (of_calls _ true _ [u % 4294967296, u / 4294967296] (two_limbs w hul _) (by simp)).mono ?_
  rintro e w1 ⟨v1, rfl, o1, b1⟩
  obtain ⟨n', hn'⟩ : ∃ n', n' = n := ⟨_, rfl⟩
  have HN := hide hn'
  rw [val_two, hs, <- hn'] at o1
  clear hn'
  have hrow := (((Row.new w 65 [.bool false, .slice none 0 0]).alloc _).later b1)
  obtain ⟨c0, c1, f0, f1⟩ := row_cells2 hrow
  have hL := hb0.trans b1
  clear hb0 hs
  obtain ⟨A1, n1, c1', rfl, o2⟩ := o1
  have HO := hide o2; clear o2
  go_wp2_with fail
  refine bodyPost_ret (results_int rfl rfl (hrow.two _ _)) rfl ?_
  refine ⟨_, rfl, ?_, hL.two (Nat.le_refl _) _ _⟩
  rw [<- HN.out]
  refine OwnI.weaken (OwnI.two (g := w.heap.size) ⟨A1, n1, c1', rfl, HO.out⟩ ?_ _ _) ?_ <;> simp <;> omega
 ·have t1 : decide (n < 0) = false := by simpa using hn
  go_wp2_with fail
  obtain ⟨u, hu⟩ : ∃ u, u = n.natAbs := ⟨_, rfl⟩
  have hw1 : n % 4294967296 = ((u % 4294967296 : Nat) : Int) := by omega
  have hw2 : n / 4294967296 = ((u / 4294967296 : Nat) : Int) := by omega
  have hs : sgn false u = n := by simp [sgn]; omega
  have hul : u < 18446744073709551616 := by omega
  rw [hw1, hw2]
  have hb0 : Later w ((w.alloc (Obj.cells #[Value.bool false, Value.slice none 0 0] 65)).alloc (Obj.cells #[Value.int IntKind.u32 ((u % 4294967296 : Nat) : Int), Value.int IntKind.u32 ((u / 4294967296 : Nat) : Int)] 160)) := ((Later.refl w).alloc _).alloc _
  refine (of_calls _ false _ [u % 4294967296, u / 4294967296] (two_limbs w hul _) (by simp)).mono ?_
  rintro e w1 ⟨v1, rfl, o1, b1⟩
  obtain ⟨n', hn'⟩ : ∃ n', n' = n := ⟨_, rfl⟩
  have HN := hide hn'
  rw [val_two, hs, <- hn'] at o1
  clear hn'
  have hrow := (((Row.new w 65 [.bool false, .slice none 0 0]).alloc _).later b1)
  obtain ⟨c0, c1, f0, f1⟩ := row_cells2 hrow
  have hL := hb0.trans b1
  clear hb0 hs
  obtain ⟨A1, n1, c1', rfl, o2⟩ := o1
  have HO := hide o2; clear o2
  go_wp2_with fail
  refine bodyPost_ret (results_int rfl rfl (hrow.two _ _)) rfl ?_
  refine ⟨_, rfl, ?_, hL.two (Nat.le_refl _) _ _⟩
  rw [<- HN.out]
  refine OwnI.weaken (OwnI.two (g := w.heap.size) ⟨A1, n1, c1', rfl, HO.out⟩ ?_ _ _) ?_ <;> simp <;> omega
end Go.Proofs.YtncbebfhakcgdaaGreat
namespace Go.Proofs.YtncbebfhakcgdaaGreat
open Go.RowKit Go.Shelf
theorem row_cells4 {w : World} {g : Nat} {t : TypeId} {a b c d : Value} (h : Row w g t [a, b, c, d]) : w.cell? ⟨g, 0, none⟩ = some a /\ w.cell? ⟨g, 1, none⟩ = some b /\ w.cell? ⟨g, 2, none⟩ = some c /\ w.cell? ⟨g, 3, none⟩ = some d /\
 w.frozen? ⟨g, 0, none⟩ = false /\ w.frozen? ⟨g, 1, none⟩ = false /\ w.frozen? ⟨g, 2, none⟩ = false /\ w.frozen? ⟨g, 3, none⟩ = false :=
 ⟨h.cell rfl, h.cell rfl, h.cell rfl, h.cell rfl, h.frozen 0, h.frozen 1, h.frozen 2, h.frozen 3⟩
theorem Row.four {W : World} {g : Nat} {t : TypeId} {a b c d : Value} (h : Row W g t [a, b, c, d]) (x y z u : Value) : Row ((((W.setCell ⟨g, 0, none⟩ x).setCell ⟨g, 1, none⟩ y).setCell ⟨g, 2, none⟩ z).setCell ⟨g, 3, none⟩ u) g t [x, y, z, u] :=
 (((h.set_ 0 x).set_ 1 y).set_ 2 z).set_ 3 u
theorem Later.four {a w : World} (h : Later a w) {g : Nat} (hg : a.heap.size <= g) (x y z u : Value) : Later a ((((w.setCell ⟨g, 0, none⟩ x).setCell ⟨g, 1, none⟩ y).setCell ⟨g, 2, none⟩ z).setCell ⟨g, 3, none⟩ u) :=
 (((h.setCell (p := ⟨g, 0, none⟩) hg x).setCell (p := ⟨g, 1, none⟩) hg y).setCell (p := ⟨g, 2, none⟩) hg z).setCell (p := ⟨g, 3, none⟩) hg u
theorem Own32.far4 {T : TypeId} {w : World} {B : Nat} {v : Value} {l : List Nat} (h : Own32 T w B v l) {g : Nat} (hg : g < B) (x y z u : Value) : Own32 T ((((w.setCell ⟨g, 0, none⟩ x).setCell ⟨g, 1, none⟩ y).setCell ⟨g, 2, none⟩ z).setCell ⟨g, 3, none⟩ u) B v l :=
 (((h.far (p := ⟨g, 0, none⟩) hg x).far (p := ⟨g, 1, none⟩) hg y).far (p := ⟨g, 2, none⟩) hg z).far (p := ⟨g, 3, none⟩) hg u
theorem Row.far4 {W : World} {h : Nat} {t : TypeId} {cs : List Value} (r : Row W h t cs) {g : Nat} (hg : h ≠ g) (x y z u : Value) : Row ((((W.setCell ⟨g, 0, none⟩ x).setCell ⟨g, 1, none⟩ y).setCell ⟨g, 2, none⟩ z).setCell ⟨g, 3, none⟩ u) h t cs :=
 (((r.far (p := ⟨g, 0, none⟩) hg x).far (p := ⟨g, 1, none⟩) hg y).far (p := ⟨g, 2, none⟩) hg z).far (p := ⟨g, 3, none⟩) hg u
theorem OwnI.four {w : World} {B : Nat} {v : Value} {z : Int} (h : OwnI w B v z) {g : Nat} (hg : g < B) (a b c d : Value) : OwnI ((((w.setCell ⟨g, 0, none⟩ a).setCell ⟨g, 1, none⟩ b).setCell ⟨g, 2, none⟩ c).setCell ⟨g, 3, none⟩ d) B v z := by
 obtain ⟨A, n, c', e, h⟩ := h; exact ⟨A, n, c', e, h.far4 hg a b c d⟩
theorem results_rat {fn : Func} {t : Tmp} {tmps : Array Value} {W : World} {b : Nat} {x y z u : Value} (h : fn.results = #[.cell t 67]) (hp : tmps[t]?.getD undef = .pointer (some ⟨b, 0, none⟩)) (hr : Row W b 67 [x, y, z, u]) :
 (results fn tmps).run Tryz.prog W = .ok (.agg #[x, y, z, u]) W := by
 obtain ⟨c0, c1, c2, c3, -⟩ := row_cells4 hr
 simp [results, h, hp, go_sem, c0, c1, c2, c3]
def OwnR (w : World) (B : Nat) (v : Value) (q : Rat) : Prop :=
 ∃ A n c A' n' c', v = .agg #[.bool (decide (q.num < 0)), .slice A n c, .bool false, .slice A' n' c'] /\ Own32 160 w B (.slice A n c) (limbs q.num.natAbs) /\ Own32 160 w B (.slice A' n' c') (limbs q.den)
def ratOf (x : Int) (y : Int) : Rat := if 0 < y then mkRat x y.toNat else 0
def RawR (w : World) (v : Value) (q : Rat) (k : Nat) : Prop :=
 ∃ a A n c b A' n' c' x y, v = .agg #[.bool a, .slice A n c, .bool b, .slice A' n' c'] /\ RawI w (.agg #[.bool a, .slice A n c]) x k /\ RawI w (.agg #[.bool b, .slice A' n' c']) y k /\ q = ratOf x y
theorem OwnR.later {w w' : World} {B : Nat} {v : Value} {q : Rat} (h : OwnR w B v q) (hb : Later w w') : OwnR w' B v q := by
 obtain ⟨A, n, c, A', n', c', e, h1, h2⟩ := h; exact ⟨A, n, c, A', n', c', e, h1.later hb, h2.later hb⟩
theorem OwnR.weaken {w : World} {B C : Nat} {v : Value} {q : Rat} (h : OwnR w B v q) (hC : C <= B) : OwnR w C v q := by
 obtain ⟨A, n, c, A', n', c', e, h1, h2⟩ := h; exact ⟨A, n, c, A', n', c', e, h1.weaken hC, h2.weaken hC⟩
theorem RawR.later {w w' : World} {v : Value} {q : Rat} {k : Nat} (h : RawR w v q k) (hb : Later w w') : RawR w' v q k := by
 obtain ⟨a, A, n, c, b, A', n', c', x, y, e, h1, h2, h3⟩ := h; exact ⟨a, A, n, c, b, A', n', c', x, y, e, h1.later hb, h2.later hb, h3⟩
theorem RawR.mono {w : World} {v : Value} {q : Rat} {k m : Nat} (h : RawR w v q k) (hm : k <= m) : RawR w v q m := by
 obtain ⟨a, A, n, c, b, A', n', c', x, y, e, h1, h2, h3⟩ := h; exact ⟨a, A, n, c, b, A', n', c', x, y, e, h1.mono hm, h2.mono hm, h3⟩
def Sized (q : Rat) (k : Nat) : Prop := (limbs q.num.natAbs).length <= k /\ (limbs q.den).length <= k
theorem ratOf_self (q : Rat) : ratOf q.num q.den = q := by
 unfold ratOf
 rw [if_pos (by have := q.den_pos; omega), Int.toNat_natCast]
 exact Rat.mkRat_self q
theorem OwnR.raw {w : World} {B : Nat} {v : Value} {q : Rat} {k : Nat} (h : OwnR w B v q) (hk : Sized q k) : RawR w v q k := by
 obtain ⟨A, n, c, A', n', c', e, h1, h2⟩ := h
 refine ⟨_, A, n, c, false, A', n', c', q.num, q.den, e, OwnI.raw (B := B) ⟨A, n, c, rfl, h1⟩ hk.1, ⟨false, A', n', c', _, rfl, h2.reads, ?_, hk.2⟩, (ratOf_self q).symm⟩
 rw [val_limbs]; rfl
set_option maxHeartbeats 1000000 in
theorem one_calls (w : World) : Calls Tryz.prog 164 #[] w (Ret w fun w' v => OwnI w' w.heap.size v 1) := by
 go_enter Tryz.func164, Tryz.ntmps164
 go_wp2_with fail
 refine (wof_calls _ 1 (by omega) (by omega)).mono ?_
 rintro e w1 ⟨v1, rfl, o1, b1⟩
 have hrow := ((Row.new w 65 [.bool false, .slice none 0 0]).later b1)
 obtain ⟨c0, c1, f0, f1⟩ := row_cells2 hrow
 have hL := ((Later.refl w).alloc _).trans b1
 obtain ⟨z, hz⟩ : ∃ z : Int, z = 1 := ⟨_, rfl⟩
 have HZ := hide hz
 rw [<- hz] at o1
 clear hz
 obtain ⟨A1, n1, c1', rfl, o2⟩ := o1
 have HO := hide o2; clear o2
 go_wp2_with fail
 refine bodyPost_ret (results_int rfl rfl (hrow.two _ _)) rfl ?_
 refine ⟨_, rfl, ?_, hL.two (Nat.le_refl _) _ _⟩
 rw [<- HZ.out]
 refine OwnI.weaken (OwnI.two (g := w.heap.size) ⟨A1, n1, c1', rfl, HO.out⟩ ?_ _ _) ?_ <;> simp <;> omega
set_option maxHeartbeats 1000000 in
theorem zero_calls (w : World) : Calls Tryz.prog 146 #[] w (Ret w fun w' v => OwnR w' w.heap.size v 0) := by
 go_enter Tryz.func146, Tryz.ntmps146
 go_wp2_with fail
 refine (one_calls _).mono ?_
 rintro e w1 ⟨v1, rfl, o1, b1⟩
 have hrow := ((Row.new w 67 [.bool false, .slice none 0 0, .bool false, .slice none 0 0]).later b1)
 obtain ⟨c0, c1, c2, c3, f0, f1, f2, f3⟩ := row_cells4 hrow
 have hL := ((Later.refl w).alloc _).trans b1
 obtain ⟨A1, n1, c1', rfl, o2⟩ := o1
 have HO := hide o2; clear o2
 have hd : decide ((1 : Int) < 0) = false := rfl
 go_wp2_with fail
 refine bodyPost_ret (results_rat rfl rfl (hrow.four _ _ _ _)) rfl ?_
 refine ⟨_, rfl, ⟨none, 0, 0, A1, n1, c1', rfl, ?_, ?_⟩, hL.four (Nat.le_refl _) _ _ _ _⟩
 ·rw [show (0 : Rat).num.natAbs = 0 from rfl, limbs_zero]; exact own_nil _ _ _
 ·refine Own32.weaken (Own32.far4 (g := w.heap.size) HO.out ?_ _ _ _ _) ?_ <;> simp
end Go.Proofs.YtncbebfhakcgdaaGreat
namespace Go.Proofs.YtncbebfhakcgdaaGreat
open Go.RowKit Go.Shelf
theorem boxes2 (w : World) (x y : List Value) (t1 t2 : TypeId) {W : World} (hW : W = ((w.alloc (Obj.cells x.toArray t1)).alloc (Obj.cells y.toArray t2))) :
 Later w W /\ Row W w.heap.size t1 x /\ Row W (w.heap.size + 1) t2 y /\ W.heap.size = w.heap.size + 2 := by
 subst hW
 refine ⟨((Later.refl w).alloc _).alloc _, (Row.new w _ _).alloc _, ?_, by simp⟩
 have := Row.new (w.alloc (Obj.cells x.toArray t1)) t2 y
 rw [World.size_alloc] at this; exact this
set_option maxHeartbeats 1000000 in
theorem may_calls (w : World) (a : Bool) (s u : Value) (A : Option Addr) (n c : Nat) (b : Bool) (y : Int) (k : Nat) (h : RawI w (.agg #[.bool b, .slice A n c]) y k) (hs : ∃ A' n' c', s = .slice A' n' c') (hk : k <= 500000000) :
 Calls Tryz.prog 101 #[.agg #[.bool a, s, .bool b, .slice A n c]] w (RetV w (.bool (decide (0 < y)))) := by
 obtain ⟨A', n', c', rfl⟩ := hs
 have H := hide h
 clear h
 go_enter Tryz.func101, Tryz.ntmps101
 go_wp2_with fail
 have hb0 : Later w (w.alloc (Obj.cells #[Value.bool a, Value.slice A' n' c', Value.bool b, Value.slice A n c] 67)) := (Later.refl w).alloc _
 refine (plain_calls _ _ y k (H.out.later hb0) (by omega)).mono ?_
 rintro e w1 ⟨v1, rfl, o1, b1⟩
 have hL := hb0.trans b1
 clear hb0
 obtain ⟨A1, n1, c1, rfl, o1⟩ := o1
 obtain ⟨A2, c2, f1, -, -, -, -⟩ := o1.reads.form
 injection f1 with g1 g2 g3
 subst g1 g3
 have HN := hide g2
 by_cases hy : y < 0
 ·have t0 : decide (y < 0) = true := by simpa using hy
  have t1 : decide (0 < y) = false := by simp; omega
  have hp : 0 < n1 := by rw [g2]; exact length_limbs_pos.2 (by omega)
  have t2 : decide (0 < n1) = true := by simpa using hp
  rw [t0]
  clear g2 o1
  go_wp2_with fail
  go_ret
  exact ⟨by rw [t1]; rfl, ((hL.alloc _))⟩
 ·have t0 : decide (y < 0) = false := by simpa using hy
  rw [t0]
  by_cases h0 : y = 0
  ·have t1 : decide (0 < y) = false := by simp; omega
   have hp : n1 = 0 := by rw [g2, h0]; show (limbs 0).length = 0; rw [limbs_zero]; rfl
   clear g2 o1 HN
   subst hp
   go_wp2_with fail
   go_ret
   exact ⟨by rw [t1]; rfl, ((hL.alloc _))⟩
  ·have t1 : decide (0 < y) = true := by simp; omega
   have hp : 0 < n1 := by rw [g2]; exact length_limbs_pos.2 (by omega)
   have t2 : decide (0 < n1) = true := by simpa using hp
   clear g2 o1
   go_wp2_with fail
   go_ret
   exact ⟨by rw [t1]; rfl, ((hL.alloc _))⟩
theorem exact_sgn {z : Int} {neg : Bool} {l : List Nat} (h : z = sgn neg (val l)) (g : Nat) : sgn neg (val l / g) = sgn (decide (z < 0)) (z.natAbs / g) := by
 rw [h, natAbs_sgn, neg_sgn]
 by_cases h0 : val l = 0
 ·rw [h0]; simp [sgn]
 ·have : decide (0 < val l) = true := by simp; omega
  rw [this, Bool.and_true]
set_option maxHeartbeats 1000000 in
theorem exact_calls (w : World) (v : Value) (z : Int) (k : Nat) (g G m : Nat) (B C : Option Addr) (n c : Nat) (h : RawI w v z k) (hg : 0 < g) (hr : Row w G 65 [.bool false, .slice C n c]) (hu : U32s w (.slice C n c) (limbs g)) (hk : k <= 500000000) (hgl : (limbs g).length <= 500000000)
 (z' : Int) (hz' : sgn (decide (z < 0)) (z.natAbs / g) = z') :
 Calls Tryz.prog 167 #[v, .pointer (some ⟨G, 0, none⟩)] w (Ret w fun w' v => OwnI w' w.heap.size v z') := by
 have hraw := h
 obtain ⟨neg, A, n', c', l, rfl, hl, hz, hlk⟩ := h
 have H := hide hraw; have HL := hide hl; have HR := hide hr; have HU := hide hu; have HZ := hide hz
 clear hraw hl hr hu
 go_enter Tryz.func167, Tryz.ntmps167
 obtain ⟨W0, hW0⟩ : ∃ W0, W0 = ((w.alloc (Obj.cells #[Value.bool neg, Value.slice A n' c'] 65)).alloc (Obj.cells #[Value.bool false, Value.slice none 0 0] 65)) := ⟨_, rfl⟩
 obtain ⟨hb0, r1, r2, hsz⟩ := boxes2 w [.bool neg, .slice A n' c'] [.bool false, .slice none 0 0] 65 65 hW0
 obtain ⟨c0, c1, f0, f1⟩ := row_cells2 (HR.out.later hb0)
 rw [hW0] at c0 c1 f0 f1
 go_wp2_with fail
 rw [<- hW0]
 clear c0 c1 f0 f1 hW0
 have hge : 0 < val (limbs g) := by rw [val_limbs]; exact hg
 refine (div_calls _ _ _ l (limbs g) (HL.out.later hb0) (HU.out.later hb0) (by omega) (by omega) hge).mono ?_
 rintro e w1 ⟨q, r, ok, rfl, ⟨oq, -, rfl⟩, b1⟩
 rw [val_limbs] at oq
 obtain ⟨Q, q3, q4, rfl⟩ : ∃ Q q3 q4, q = .slice Q q3 q4 := by
  obtain ⟨Q, cq, e, -⟩ := oq.reads.form; exact ⟨Q, _, cq, e⟩
 obtain ⟨c0, c1, f0, f1⟩ := row_cells2 (r1.later b1)
 have hsg := exact_sgn HZ.out g
 rw [hz'] at hsg
 have HSG := hide hsg
 have hlq : (limbs (val l / g)).length <= k := Nat.le_trans (length_limbs_mono (Nat.div_le_self _ _)) (Nat.le_trans (length_limbs_val HL.out.1) hlk)
 have HLQ := hide hlq
 clear hsg hlq
 go_wp2_with fail
 refine (plain_calls _ _ z' k ⟨_, _, _, _, _, rfl, oq.reads, by rw [val_limbs]; exact HSG.out.symm, HLQ.out⟩ (by omega)).mono ?_
 rintro e w2 ⟨v2, rfl, o2, b2⟩
 obtain ⟨P2, q2, d2, rfl, o2⟩ := o2
 have hbb := b1.trans b2
 have hrow := r2.later hbb
 obtain ⟨i0, i1, i2, i3⟩ := row_cells2 hrow
 have hs1 := b1.size
 have HO := hide o2
 clear o2 oq
 go_wp2_with fail
 refine bodyPost_ret (results_int rfl rfl (hrow.two _ _)) rfl ?_
 refine ⟨_, rfl, ?_, (hb0.trans hbb).two (by omega) _ _⟩
 exact (OwnI.two (g := w.heap.size + 1) ⟨P2, q2, d2, rfl, HO.out⟩ (by omega) _ _).weaken (by omega)
end Go.Proofs.YtncbebfhakcgdaaGreat
namespace Go.Proofs.YtncbebfhakcgdaaGreat
open Go.RowKit Go.Shelf
structure Only (g : Nat) (w w' : World) : Prop where
 os : w'.os = w.os
 tape : w'.tape = w.tape
 output : w'.output = w.output
 size : w'.heap.size = w.heap.size
 block : ∀ b, b ≠ g -> w'.heap[b]? = w.heap[b]?
theorem Only.refl (g : Nat) (w : World) : Only g w w := ⟨rfl, rfl, rfl, rfl, fun _ _ => rfl⟩
theorem Only.trans {g : Nat} {a b c : World} (h : Only g a b) (k : Only g b c) : Only g a c :=
 ⟨k.os.trans h.os, k.tape.trans h.tape, k.output.trans h.output, k.size.trans h.size, fun b hb => (k.block b hb).trans (h.block b hb)⟩
theorem Only.set {g : Nat} {w w' : World} (h : Only g w w') (i : Nat) (u : Value) : Only g w (w'.setCell ⟨g, i, none⟩ u) := by
 refine ⟨h.os, h.tape, h.output, by rw [World.size_setCell]; exact h.size, fun b hb => ?_⟩
 exact (Below.heap_setCell w' ⟨g, i, none⟩ u b hb).trans (h.block b hb)
theorem Only.one (g : Nat) (w : World) (i : Nat) (u : Value) : Only g w (w.setCell ⟨g, i, none⟩ u) := (Only.refl g w).set i u
theorem Only.two (g : Nat) (w : World) (x y : Value) : Only g w ((w.setCell ⟨g, 0, none⟩ x).setCell ⟨g, 1, none⟩ y) := ((Only.refl g w).set 0 x).set 1 y
theorem Only.four (g : Nat) (w : World) (x y z u : Value) : Only g w ((((w.setCell ⟨g, 0, none⟩ x).setCell ⟨g, 1, none⟩ y).setCell ⟨g, 2, none⟩ z).setCell ⟨g, 3, none⟩ u) := ((((Only.refl g w).set 0 x).set 1 y).set 2 z).set 3 u
theorem Later.only {a w w' : World} {g : Nat} (h : Later a w) (o : Only g w w') (hg : a.heap.size <= g) : Later a w' :=
 ⟨o.os.trans h.os, o.tape.trans h.tape, o.output.trans h.output, by rw [o.size]; exact h.size, fun b hb => (o.block b (by omega)).trans (h.block b hb)⟩
theorem Row.only {w w' : World} {g h : Nat} {t : TypeId} {cs : List Value} (r : Row w h t cs) (o : Only g w w') (hg : h ≠ g) : Row w' h t cs := (o.block h hg).trans r
theorem ownsRow_only {w w' : World} {B g : Nat} {e : TypeId} {size n : Nat} {v : Value} {xs : List Value} (h : w.ownsRow B e size v n xs) (o : Only g w w') (hg : g < B) : w'.ownsRow B e size v n xs := by
 obtain ⟨h2, h3⟩ := h
 refine ⟨h2, ?_⟩
 rcases h3 with h3 | ⟨k, cap, cur, rfl, hb, hk, r⟩
 ·exact .inl h3
 ·exact .inr ⟨k, cap, cur, rfl, hb, (o.block k (by omega)).trans hk, r⟩
theorem Own32.only {T : TypeId} {w w' : World} {B g : Nat} {v : Value} {l : List Nat} (h : Own32 T w B v l) (o : Only g w w') (hg : g < B) : Own32 T w' B v l := ⟨h.1, ownsRow_only h.2 o hg⟩
theorem OwnI.only {w w' : World} {B g : Nat} {v : Value} {z : Int} (h : OwnI w B v z) (o : Only g w w') (hg : g < B) : OwnI w' B v z := by
 obtain ⟨A, n, c, e, h⟩ := h; exact ⟨A, n, c, e, h.only o hg⟩
theorem OwnR.only {w w' : World} {B g : Nat} {v : Value} {q : Rat} (h : OwnR w B v q) (o : Only g w w') (hg : g < B) : OwnR w' B v q := by
 obtain ⟨A, n, c, A', n', c', e, h1, h2⟩ := h; exact ⟨A, n, c, A', n', c', e, h1.only o hg, h2.only o hg⟩
theorem OwnI.open_ {w : World} {B : Nat} {v : Value} {z : Int} (h : OwnI w B v z) : ∃ s A n c, v = .agg #[.bool s, .slice A n c] /\ OwnI w B (.agg #[.bool s, .slice A n c]) z := by
 obtain ⟨A, n, c, rfl, h'⟩ := id h
 exact ⟨_, A, n, c, rfl, h⟩
theorem OwnR.open_ {w : World} {B : Nat} {v : Value} {q : Rat} (h : OwnR w B v q) : ∃ s A n c A' n' c', v = .agg #[.bool s, .slice A n c, .bool false, .slice A' n' c'] /\ OwnR w B (.agg #[.bool s, .slice A n c, .bool false, .slice A' n' c']) q := by
 obtain ⟨A, n, c, A', n', c', rfl, h'⟩ := id h
 exact ⟨_, A, n, c, A', n', c', rfl, h⟩
theorem RawI.open_ {w : World} {v : Value} {z : Int} {k : Nat} (h : RawI w v z k) : ∃ s A n c, v = .agg #[.bool s, .slice A n c] := by
 obtain ⟨n, A, m, c, l, e, h, e', hk⟩ := h; exact ⟨n, A, m, c, e⟩
theorem RawR.open_ {w : World} {v : Value} {q : Rat} {k : Nat} (h : RawR w v q k) : ∃ s A n c s' A' n' c', v = .agg #[.bool s, .slice A n c, .bool s', .slice A' n' c'] := by
 obtain ⟨a, A, n, c, b, A', n', c', x, y, e, h⟩ := h; exact ⟨a, A, n, c, b, A', n', c', e⟩
theorem OwnR.num {w : World} {B : Nat} {s s' : Bool} {A A' : Option Addr} {n c n' c' : Nat} {q : Rat} (h : OwnR w B (.agg #[.bool s, .slice A n c, .bool s', .slice A' n' c']) q) : OwnI w B (.agg #[.bool s, .slice A n c]) q.num := by
 obtain ⟨A, n, c, A', n', c', e, h1, h2⟩ := h
 injection e with e; injection e with e; injection e with e1 e; injection e with e2 e
 rw [e1, e2]
 exact ⟨A, n, c, rfl, h1⟩
theorem OwnR.den {w : World} {B : Nat} {s s' : Bool} {A A' : Option Addr} {n c n' c' : Nat} {q : Rat} (h : OwnR w B (.agg #[.bool s, .slice A n c, .bool s', .slice A' n' c']) q) : OwnI w B (.agg #[.bool s', .slice A' n' c']) q.den := by
 obtain ⟨A, n, c, A', n', c', e, h1, h2⟩ := h
 injection e with e; injection e with e; injection e with e1 e; injection e with e2 e; injection e with e3 e; injection e with e4 e
 rw [e3, e4]
 exact ⟨A', n', c', by rw [show decide ((q.den : Int) < 0) = false by simp], h2⟩
theorem OwnI.len {w : World} {B : Nat} {s : Bool} {A : Option Addr} {n c : Nat} {z : Int} (h : OwnI w B (.agg #[.bool s, .slice A n c]) z) : n = (limbs z.natAbs).length := by
 obtain ⟨A, n, c, e, h⟩ := h
 obtain ⟨A2, c2, e2, -⟩ := h.reads.form
 injection e with e; injection e with e; injection e with e1 e; injection e with e3 e
 rw [e2] at e3; injection e3
theorem OwnI.sign {w : World} {B : Nat} {s : Bool} {A : Option Addr} {n c : Nat} {z : Int} (h : OwnI w B (.agg #[.bool s, .slice A n c]) z) : s = decide (z < 0) := by
 obtain ⟨A, n, c, e, h⟩ := h
 injection e with e; injection e with e; injection e with e1 e; injection e1
theorem OwnI.own {w : World} {B : Nat} {s : Bool} {A : Option Addr} {n c : Nat} {z : Int} (h : OwnI w B (.agg #[.bool s, .slice A n c]) z) : Own32 160 w B (.slice A n c) (limbs z.natAbs) := by
 obtain ⟨A, n, c, e, h⟩ := h
 injection e with e; injection e with e; injection e with e1 e; injection e with e3 e
 rw [e3]; exact h
theorem OwnI.mk_ {w : World} {B : Nat} {s : Bool} {A : Option Addr} {n c : Nat} {z : Int} (hs : s = decide (z < 0)) (h : Own32 160 w B (.slice A n c) (limbs z.natAbs)) : OwnI w B (.agg #[.bool s, .slice A n c]) z := ⟨A, n, c, by rw [hs], h⟩
theorem OwnR.mk_ {w : World} {B : Nat} {s : Bool} {A A' : Option Addr} {n c n' c' : Nat} {q : Rat} (h : OwnI w B (.agg #[.bool s, .slice A n c]) q.num) (h' : Own32 160 w B (.slice A' n' c') (limbs q.den)) : OwnR w B (.agg #[.bool s, .slice A n c, .bool false, .slice A' n' c']) q :=
 ⟨A, n, c, A', n', c', by rw [h.sign], h.own, h'⟩
theorem results_rat_bool {fn : Func} {t u : Tmp} {tmps : Array Value} {W : World} {b : Nat} {x y z v : Value} {ok : Bool} (h : fn.results = #[.cell t 67, .tmp u]) (hp : tmps[t]?.getD undef = .pointer (some ⟨b, 0, none⟩)) (hu : tmps[u]?.getD undef = .bool ok) (hr : Row W b 67 [x, y, z, v]) :
 (results fn tmps).run Tryz.prog W = .ok (.tuple #[.agg #[x, y, z, v], .bool ok]) W := by
 obtain ⟨c0, c1, c2, c3, -⟩ := row_cells4 hr
 simp [results, h, hp, hu, go_sem, c0, c1, c2, c3]
theorem boxes1 (w : World) (x : List Value) (t1 : TypeId) {W : World} (hW : W = w.alloc (Obj.cells x.toArray t1)) : Later w W /\ Row W w.heap.size t1 x /\ W.heap.size = w.heap.size + 1 := by
 subst hW
 exact ⟨(Later.refl w).alloc _, Row.new w _ _, by simp⟩
end Go.Proofs.YtncbebfhakcgdaaGreat
