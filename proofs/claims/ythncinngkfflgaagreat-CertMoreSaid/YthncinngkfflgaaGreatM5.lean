import Derived.Test.YthncinngkfflgaaGreatM4
import Derived.Deep.DrawnRows

/- Whole numbers: Sub, Of. -/
set_option linter.unusedVariables false
set_option linter.unusedSimpArgs false
set_option maxRecDepth 100000
namespace Go.Proofs.YthncinngkfflgaaGreat
open Go.RowKit Go.Shelf

theorem boxes3 (w : World) (x y z : List Value) (t1 t2 t3 : TypeId) {W : World} (hW : W = ((w.alloc (Obj.cells x.toArray t1)).alloc (Obj.cells y.toArray t2)).alloc (Obj.cells z.toArray t3)) :
    Later w W ∧ Row W w.heap.size t1 x ∧ Row W (w.heap.size + 1) t2 y ∧ Row W (w.heap.size + 2) t3 z ∧ W.heap.size = w.heap.size + 3 := by
  subst hW
  refine ⟨(((Later.refl w).alloc _).alloc _).alloc _, ((Row.new w _ _).alloc _).alloc _, ?_, ?_, by simp⟩
  · have := Row.new (w.alloc (Obj.cells x.toArray t1)) t2 y
    rw [World.size_alloc] at this; exact this.alloc _
  · have := Row.new ((w.alloc (Obj.cells x.toArray t1)).alloc (Obj.cells y.toArray t2)) t3 z
    rw [World.size_alloc, World.size_alloc] at this; exact this

set_option maxHeartbeats 1000000 in
theorem wsub_calls (w : World) (va vb : Value) (x y : Int) (k m : Nat) (hx : RawI w va x k) (hy : RawI w vb y m) (hk : k ≤ 500000000) (hm : m ≤ 500000000) :
    Calls Tryz.prog 161 #[va, vb] w (Ret w fun w' v => OwnI w' w.heap.size v (x - y)) := by
  obtain ⟨z, hz⟩ : ∃ z, z = x - y := ⟨_, rfl⟩
  rw [← hz]
  have hly := hy.limbs_le
  have HX := hide hx; have HY := hide hy; have HZ := hide hz
  obtain ⟨n1, A1, m1, c1, l1, rfl, hu1, hz1, hl1⟩ := hx
  obtain ⟨n2, A2, m2, c2, l2, rfl, hu2, hz2, hl2⟩ := hy
  clear hu1 hu2 hz1 hz2 hl1 hl2 hz
  go_enter Tryz.func161, Tryz.ntmps161
  go_wp2_with fail
  obtain ⟨W0, hW0⟩ : ∃ W0, W0 = (((w.alloc (Obj.cells #[Value.bool n1, Value.slice A1 m1 c1] 35)).alloc (Obj.cells #[Value.bool n2, Value.slice A2 m2 c2] 35)).alloc (Obj.cells #[Value.bool false, Value.slice none 0 0] 35)) := ⟨_, rfl⟩
  obtain ⟨hb0, r1, r2, r3, hsz⟩ := boxes3 w [.bool n1, .slice A1 m1 c1] [.bool n2, .slice A2 m2 c2] [.bool false, .slice none 0 0] 35 35 35 hW0
  rw [← hW0]
  clear hW0
  have R1 := hide r1; have R2 := hide r2; have R3 := hide r3; have B0 := hide hb0.drew
  have hS : ∀ w', Later W0.drew w' → w'.cell? ⟨w.heap.size, 0, none⟩ = some (.bool n1) ∧ w'.cell? ⟨w.heap.size, 1, none⟩ = some (.slice A1 m1 c1) ∧ w'.cell? ⟨w.heap.size + 1, 0, none⟩ = some (.bool n2) ∧ w'.cell? ⟨w.heap.size + 1, 1, none⟩ = some (.slice A2 m2 c2) :=
    fun w' hb => ⟨(r1.drew.later hb).cell rfl, (r1.drew.later hb).cell rfl, (r2.drew.later hb).cell rfl, (r2.drew.later hb).cell rfl⟩
  have hT : ∀ w' u1 u2, Later W0.drew w' → ((w'.setCell ⟨w.heap.size + 2, 0, none⟩ u1).setCell ⟨w.heap.size + 2, 1, none⟩ u2).cell? ⟨w.heap.size, 0, none⟩ = some (.bool n1) ∧ ((w'.setCell ⟨w.heap.size + 2, 0, none⟩ u1).setCell ⟨w.heap.size + 2, 1, none⟩ u2).cell? ⟨w.heap.size, 1, none⟩ = some (.slice A1 m1 c1) ∧ ((w'.setCell ⟨w.heap.size + 2, 0, none⟩ u1).setCell ⟨w.heap.size + 2, 1, none⟩ u2).cell? ⟨w.heap.size + 1, 0, none⟩ = some (.bool n2) ∧ ((w'.setCell ⟨w.heap.size + 2, 0, none⟩ u1).setCell ⟨w.heap.size + 2, 1, none⟩ u2).cell? ⟨w.heap.size + 1, 1, none⟩ = some (.slice A2 m2 c2) :=
    fun w' u1 u2 hb => ⟨((r1.drew.later hb).far2 (by omega) u1 u2).cell rfl, ((r1.drew.later hb).far2 (by omega) u1 u2).cell rfl, ((r2.drew.later hb).far2 (by omega) u1 u2).cell rfl, ((r2.drew.later hb).far2 (by omega) u1 u2).cell rfl⟩
  have HS := hide hS; have HT := hide hT
  obtain ⟨y', hy'⟩ : ∃ y', y' = -y := ⟨_, rfl⟩
  have hnot : ∀ W, Later w W → Calls Tryz.prog 179 #[.agg #[.bool n2, .slice A2 m2 c2]] W (Ret W fun w' v => OwnI w' W.heap.size v y') := fun W hb => by
    rw [hy']; exact not_calls W _ y m (HY.out.later hb) (by omega)
  have hzz : x + y' = z := by rw [HZ.out, hy', Int.sub_eq_add_neg]
  have hln : (limbs y'.natAbs).length ≤ m := by rw [hy', Int.natAbs_neg]; exact hly
  have HNOT := hide hnot; have HZZ := hide hzz; have HLN := hide hln
  clear r1 r2 r3 hb0 hS hT hnot hzz hln hy'
  rename_i K hK
  go_region_held3 (fun w' => w'.cell? ⟨w.heap.size, 0, none⟩ = some (.bool n1) ∧ w'.cell? ⟨w.heap.size, 1, none⟩ = some (.slice A1 m1 c1) ∧ w'.cell? ⟨w.heap.size + 1, 0, none⟩ = some (.bool n2) ∧ w'.cell? ⟨w.heap.size + 1, 1, none⟩ = some (.slice A2 m2 c2))
    (first | exact HS.out _ (Later.refl _) | exact HS.out _ b1 | exact HS.out _ (b1.trans b2) | exact HT.out _ _ _ (b1.trans b2))
    (first
      | ((with_reducible refine (HNOT.out _ B0.out).mono ?_); rintro e w1 ⟨v1, rfl, o1, b1⟩; have q1 := o1.raw HLN.out; obtain ⟨P1, d0, d1, rfl, o1⟩ := o1)
      | ((with_reducible refine (wadd_calls _ _ _ x y' k m (HX.out.later (B0.out.trans b1)) q1 (by omega) (by omega)).mono ?_); rintro e w2 ⟨v2, rfl, o2, b2⟩; rw [HZZ.out] at o2; obtain ⟨P2, q2, d2, rfl, o2⟩ := o2; obtain ⟨e1, e2, e3, e4⟩ := row_cells2 (R3.out.drew.later (b1.trans b2))))
  show K _ _
  refine hK _ _ ?_
  have hs1 := b1.size
  have hsz1 : W0.drew.heap.size = w.heap.size + 3 := hsz
  have hbb := B0.out.trans (b1.trans b2)
  have hrow := R3.out.drew.later (b1.trans b2)
  have HO := hide o2
  clear o1 o2 e1 e2 e3 e4 hK q1
  go_wp2_with fail
  refine bodyPost_ret (results_int rfl rfl (hrow.two _ _)) rfl ?_
  refine ⟨_, rfl, ?_, hbb.two (by omega) _ _⟩
  exact (OwnI.two (g := w.heap.size + 2) ⟨P2, q2, d2, rfl, HO.out⟩ (by omega) _ _).weaken (by omega)

theorem low_limb (u : Nat) : ((u : Int) % 4294967296) = ((u % 4294967296 : Nat) : Int) := by omega
theorem high_limb {u : Nat} (h : u < 18446744073709551616) : ((u : Int) / 4294967296 % 4294967296) = ((u / 4294967296 : Nat) : Int) := by omega
theorem val_two (u : Nat) : val [u % 4294967296, u / 4294967296] = u := by simp; omega
theorem two_limbs (w : World) {u : Nat} (h : u < 18446744073709551616) (o : Obj) :
    U32s ((w.alloc o).alloc (Obj.cells #[Value.int IntKind.u32 ((u % 4294967296 : Nat) : Int), Value.int IntKind.u32 ((u / 4294967296 : Nat) : Int)] 133)) (.slice (some ⟨w.heap.size + 1, 0, none⟩) 2 2) [u % 4294967296, u / 4294967296] := by
  have hrow := Row.new (w.alloc o) 133 (nums .u32 [u % 4294967296, u / 4294967296])
  rw [World.size_alloc] at hrow
  exact ⟨AllLt.cons (by omega) (AllLt.cons (by omega) AllLt.nil), (OwnNums.of_row (B := 0) hrow (Nat.zero_le _) rfl (by simp [maxLen])).reads⟩

set_option maxHeartbeats 1000000 in
theorem wof_calls (w : World) (n : Int) (h1 : -9223372036854775808 ≤ n) (h2 : n < 9223372036854775808) :
    Calls Tryz.prog 167 #[.int .i64 n] w (Ret w fun w' v => OwnI w' w.heap.size v n) := by
  go_enter Tryz.func167, Tryz.ntmps167
  by_cases hn : n < 0
  · have t1 : decide (n < 0) = true := by simpa using hn
    go_wp2_with fail
    obtain ⟨u, hu⟩ : ∃ u, u = n.natAbs := ⟨_, rfl⟩
    have hw : IntKind.u64.wrap (-IntKind.u64.wrap n) = (u : Int) := by simp [IntKind.wrap, IntKind.bits, IntKind.signed]; omega
    have hs : sgn true u = n := by simp [sgn]; omega
    have hul : u < 18446744073709551616 := by omega
    rw [hw, low_limb, high_limb hul]
    have hb0 : Later w ((w.alloc (Obj.cells #[Value.bool false, Value.slice none 0 0] 35)).alloc (Obj.cells #[Value.int IntKind.u32 ((u % 4294967296 : Nat) : Int), Value.int IntKind.u32 ((u / 4294967296 : Nat) : Int)] 133)) := ((Later.refl w).alloc _).alloc _
    refine (of_calls _ true _ [u % 4294967296, u / 4294967296] (two_limbs w hul _) (by simp)).mono ?_
    rintro e w1 ⟨v1, rfl, o1, b1⟩
    obtain ⟨n', hn'⟩ : ∃ n', n' = n := ⟨_, rfl⟩
    have HN := hide hn'
    rw [val_two, hs, ← hn'] at o1
    clear hn'
    have hrow := (((Row.new w 35 [.bool false, .slice none 0 0]).alloc _).later b1)
    obtain ⟨c0, c1, f0, f1⟩ := row_cells2 hrow
    have hL := hb0.trans b1
    clear hb0 hs
    obtain ⟨A1, n1, c1', rfl, o2⟩ := o1
    have HO := hide o2; clear o2
    go_wp2_with fail
    refine bodyPost_ret (results_int rfl rfl (hrow.two _ _)) rfl ?_
    refine ⟨_, rfl, ?_, hL.two (Nat.le_refl _) _ _⟩
    rw [← HN.out]
    refine OwnI.weaken (OwnI.two (g := w.heap.size) ⟨A1, n1, c1', rfl, HO.out⟩ ?_ _ _) ?_ <;> simp <;> omega
  · have t1 : decide (n < 0) = false := by simpa using hn
    go_wp2_with fail
    obtain ⟨u, hu⟩ : ∃ u, u = n.natAbs := ⟨_, rfl⟩
    have hw1 : n % 4294967296 = ((u % 4294967296 : Nat) : Int) := by omega
    have hw2 : n / 4294967296 = ((u / 4294967296 : Nat) : Int) := by omega
    have hs : sgn false u = n := by simp [sgn]; omega
    have hul : u < 18446744073709551616 := by omega
    rw [hw1, hw2]
    have hb0 : Later w ((w.alloc (Obj.cells #[Value.bool false, Value.slice none 0 0] 35)).alloc (Obj.cells #[Value.int IntKind.u32 ((u % 4294967296 : Nat) : Int), Value.int IntKind.u32 ((u / 4294967296 : Nat) : Int)] 133)) := ((Later.refl w).alloc _).alloc _
    refine (of_calls _ false _ [u % 4294967296, u / 4294967296] (two_limbs w hul _) (by simp)).mono ?_
    rintro e w1 ⟨v1, rfl, o1, b1⟩
    obtain ⟨n', hn'⟩ : ∃ n', n' = n := ⟨_, rfl⟩
    have HN := hide hn'
    rw [val_two, hs, ← hn'] at o1
    clear hn'
    have hrow := (((Row.new w 35 [.bool false, .slice none 0 0]).alloc _).later b1)
    obtain ⟨c0, c1, f0, f1⟩ := row_cells2 hrow
    have hL := hb0.trans b1
    clear hb0 hs
    obtain ⟨A1, n1, c1', rfl, o2⟩ := o1
    have HO := hide o2; clear o2
    go_wp2_with fail
    refine bodyPost_ret (results_int rfl rfl (hrow.two _ _)) rfl ?_
    refine ⟨_, rfl, ?_, hL.two (Nat.le_refl _) _ _⟩
    rw [← HN.out]
    refine OwnI.weaken (OwnI.two (g := w.heap.size) ⟨A1, n1, c1', rfl, HO.out⟩ ?_ _ _) ?_ <;> simp <;> omega
end Go.Proofs.YthncinngkfflgaaGreat


/- Fractions: one, zero, May, by$1. -/
set_option linter.unusedVariables false
set_option linter.unusedSimpArgs false
set_option maxRecDepth 100000
namespace Go.Proofs.YthncinngkfflgaaGreat
open Go.RowKit Go.Shelf

theorem row_cells4 {w : World} {g : Nat} {t : TypeId} {a b c d : Value} (h : Row w g t [a, b, c, d]) : w.cell? ⟨g, 0, none⟩ = some a ∧ w.cell? ⟨g, 1, none⟩ = some b ∧ w.cell? ⟨g, 2, none⟩ = some c ∧ w.cell? ⟨g, 3, none⟩ = some d ∧
    w.frozen? ⟨g, 0, none⟩ = false ∧ w.frozen? ⟨g, 1, none⟩ = false ∧ w.frozen? ⟨g, 2, none⟩ = false ∧ w.frozen? ⟨g, 3, none⟩ = false :=
  ⟨h.cell rfl, h.cell rfl, h.cell rfl, h.cell rfl, h.frozen 0, h.frozen 1, h.frozen 2, h.frozen 3⟩

theorem Row.four {W : World} {g : Nat} {t : TypeId} {a b c d : Value} (h : Row W g t [a, b, c, d]) (x y z u : Value) : Row ((((W.setCell ⟨g, 0, none⟩ x).setCell ⟨g, 1, none⟩ y).setCell ⟨g, 2, none⟩ z).setCell ⟨g, 3, none⟩ u) g t [x, y, z, u] :=
  (((h.set_ 0 x).set_ 1 y).set_ 2 z).set_ 3 u
theorem Later.four {a w : World} (h : Later a w) {g : Nat} (hg : a.heap.size ≤ g) (x y z u : Value) : Later a ((((w.setCell ⟨g, 0, none⟩ x).setCell ⟨g, 1, none⟩ y).setCell ⟨g, 2, none⟩ z).setCell ⟨g, 3, none⟩ u) :=
  (((h.setCell (p := ⟨g, 0, none⟩) hg x).setCell (p := ⟨g, 1, none⟩) hg y).setCell (p := ⟨g, 2, none⟩) hg z).setCell (p := ⟨g, 3, none⟩) hg u
theorem Own32.far4 {T : TypeId} {w : World} {B : Nat} {v : Value} {l : List Nat} (h : Own32 T w B v l) {g : Nat} (hg : g < B) (x y z u : Value) : Own32 T ((((w.setCell ⟨g, 0, none⟩ x).setCell ⟨g, 1, none⟩ y).setCell ⟨g, 2, none⟩ z).setCell ⟨g, 3, none⟩ u) B v l :=
  (((h.far (p := ⟨g, 0, none⟩) hg x).far (p := ⟨g, 1, none⟩) hg y).far (p := ⟨g, 2, none⟩) hg z).far (p := ⟨g, 3, none⟩) hg u
theorem Row.far4 {W : World} {h : Nat} {t : TypeId} {cs : List Value} (r : Row W h t cs) {g : Nat} (hg : h ≠ g) (x y z u : Value) : Row ((((W.setCell ⟨g, 0, none⟩ x).setCell ⟨g, 1, none⟩ y).setCell ⟨g, 2, none⟩ z).setCell ⟨g, 3, none⟩ u) h t cs :=
  (((r.far (p := ⟨g, 0, none⟩) hg x).far (p := ⟨g, 1, none⟩) hg y).far (p := ⟨g, 2, none⟩) hg z).far (p := ⟨g, 3, none⟩) hg u
theorem OwnI.four {w : World} {B : Nat} {v : Value} {z : Int} (h : OwnI w B v z) {g : Nat} (hg : g < B) (a b c d : Value) : OwnI ((((w.setCell ⟨g, 0, none⟩ a).setCell ⟨g, 1, none⟩ b).setCell ⟨g, 2, none⟩ c).setCell ⟨g, 3, none⟩ d) B v z := by
  obtain ⟨A, n, c', e, h⟩ := h; exact ⟨A, n, c', e, h.far4 hg a b c d⟩

theorem results_rat {fn : Func} {t : Tmp} {tmps : Array Value} {W : World} {b : Nat} {x y z u : Value} (h : fn.results = #[.cell t 37]) (hp : tmps[t]?.getD undef = .pointer (some ⟨b, 0, none⟩)) (hr : Row W b 37 [x, y, z, u]) :
    (results fn tmps).run Tryz.prog W = .ok (.agg #[x, y, z, u]) W := by
  obtain ⟨c0, c1, c2, c3, -⟩ := row_cells4 hr
  simp [results, h, hp, go_sem, c0, c1, c2, c3]

/-- a fraction, plain: a whole number and a natural number above 0, with no divisor in common -/
def OwnR (w : World) (B : Nat) (v : Value) (q : Rat) : Prop :=
  ∃ A n c A' n' c', v = .agg #[.bool (decide (q.num < 0)), .slice A n c, .bool false, .slice A' n' c'] ∧ Own32 133 w B (.slice A n c) (limbs q.num.natAbs) ∧ Own32 133 w B (.slice A' n' c') (limbs q.den)
/-- the number that a fraction stands for: 0 where its denominator is not above 0 -/
def ratOf (x : Int) (y : Int) : Rat := if 0 < y then mkRat x y.toNat else 0
/-- a fraction as the program may be handed it -/
def RawR (w : World) (v : Value) (q : Rat) (k : Nat) : Prop :=
  ∃ a A n c b A' n' c' x y, v = .agg #[.bool a, .slice A n c, .bool b, .slice A' n' c'] ∧ RawI w (.agg #[.bool a, .slice A n c]) x k ∧ RawI w (.agg #[.bool b, .slice A' n' c']) y k ∧ q = ratOf x y

theorem OwnR.later {w w' : World} {B : Nat} {v : Value} {q : Rat} (h : OwnR w B v q) (hb : Later w w') : OwnR w' B v q := by
  obtain ⟨A, n, c, A', n', c', e, h1, h2⟩ := h; exact ⟨A, n, c, A', n', c', e, h1.later hb, h2.later hb⟩
theorem OwnR.weaken {w : World} {B C : Nat} {v : Value} {q : Rat} (h : OwnR w B v q) (hC : C ≤ B) : OwnR w C v q := by
  obtain ⟨A, n, c, A', n', c', e, h1, h2⟩ := h; exact ⟨A, n, c, A', n', c', e, h1.weaken hC, h2.weaken hC⟩
theorem RawR.later {w w' : World} {v : Value} {q : Rat} {k : Nat} (h : RawR w v q k) (hb : Later w w') : RawR w' v q k := by
  obtain ⟨a, A, n, c, b, A', n', c', x, y, e, h1, h2, h3⟩ := h; exact ⟨a, A, n, c, b, A', n', c', x, y, e, h1.later hb, h2.later hb, h3⟩
theorem RawR.mono {w : World} {v : Value} {q : Rat} {k m : Nat} (h : RawR w v q k) (hm : k ≤ m) : RawR w v q m := by
  obtain ⟨a, A, n, c, b, A', n', c', x, y, e, h1, h2, h3⟩ := h; exact ⟨a, A, n, c, b, A', n', c', x, y, e, h1.mono hm, h2.mono hm, h3⟩
/-- num and den of so many limbs at most -/
def Sized (q : Rat) (k : Nat) : Prop := (limbs q.num.natAbs).length ≤ k ∧ (limbs q.den).length ≤ k
theorem ratOf_self (q : Rat) : ratOf q.num q.den = q := by
  unfold ratOf
  rw [if_pos (by have := q.den_pos; omega), Int.toNat_natCast]
  exact Rat.mkRat_self q
theorem OwnR.raw {w : World} {B : Nat} {v : Value} {q : Rat} {k : Nat} (h : OwnR w B v q) (hk : Sized q k) : RawR w v q k := by
  obtain ⟨A, n, c, A', n', c', e, h1, h2⟩ := h
  refine ⟨_, A, n, c, false, A', n', c', q.num, q.den, e, OwnI.raw (B := B) ⟨A, n, c, rfl, h1⟩ hk.1, ⟨false, A', n', c', _, rfl, h2.reads, ?_, hk.2⟩, (ratOf_self q).symm⟩
  rw [val_limbs]; rfl

set_option maxHeartbeats 1000000 in
theorem one_calls (w : World) : Calls Tryz.prog 174 #[] w (Ret w fun w' v => OwnI w' w.heap.size v 1) := by
  go_enter Tryz.func174, Tryz.ntmps174
  go_wp2_with fail
  refine (wof_calls _ 1 (by omega) (by omega)).mono ?_
  rintro e w1 ⟨v1, rfl, o1, b1⟩
  have hrow := ((Row.new w 35 [.bool false, .slice none 0 0]).later b1)
  obtain ⟨c0, c1, f0, f1⟩ := row_cells2 hrow
  have hL := ((Later.refl w).alloc _).trans b1
  obtain ⟨z, hz⟩ : ∃ z : Int, z = 1 := ⟨_, rfl⟩
  have HZ := hide hz
  rw [← hz] at o1
  clear hz
  obtain ⟨A1, n1, c1', rfl, o2⟩ := o1
  have HO := hide o2; clear o2
  go_wp2_with fail
  refine bodyPost_ret (results_int rfl rfl (hrow.two _ _)) rfl ?_
  refine ⟨_, rfl, ?_, hL.two (Nat.le_refl _) _ _⟩
  rw [← HZ.out]
  refine OwnI.weaken (OwnI.two (g := w.heap.size) ⟨A1, n1, c1', rfl, HO.out⟩ ?_ _ _) ?_ <;> simp <;> omega

set_option maxHeartbeats 1000000 in
theorem zero_calls (w : World) : Calls Tryz.prog 148 #[] w (Ret w fun w' v => OwnR w' w.heap.size v 0) := by
  go_enter Tryz.func148, Tryz.ntmps148
  go_wp2_with fail
  refine (one_calls _).mono ?_
  rintro e w1 ⟨v1, rfl, o1, b1⟩
  have hrow := ((Row.new w 37 [.bool false, .slice none 0 0, .bool false, .slice none 0 0]).later b1)
  obtain ⟨c0, c1, c2, c3, f0, f1, f2, f3⟩ := row_cells4 hrow
  have hL := ((Later.refl w).alloc _).trans b1
  obtain ⟨A1, n1, c1', rfl, o2⟩ := o1
  have HO := hide o2; clear o2
  have hd : decide ((1 : Int) < 0) = false := rfl
  go_wp2_with fail
  refine bodyPost_ret (results_rat rfl rfl (hrow.four _ _ _ _)) rfl ?_
  refine ⟨_, rfl, ⟨none, 0, 0, A1, n1, c1', rfl, ?_, ?_⟩, hL.four (Nat.le_refl _) _ _ _ _⟩
  · rw [show (0 : Rat).num.natAbs = 0 from rfl, limbs_zero]; exact own_nil _ _ _
  · refine Own32.weaken (Own32.far4 (g := w.heap.size) HO.out ?_ _ _ _ _) ?_ <;> simp
end Go.Proofs.YthncinngkfflgaaGreat


/- Fractions: May, by$1. -/
set_option linter.unusedVariables false
set_option linter.unusedSimpArgs false
set_option maxRecDepth 100000
namespace Go.Proofs.YthncinngkfflgaaGreat
open Go.RowKit Go.Shelf

theorem boxes2 (w : World) (x y : List Value) (t1 t2 : TypeId) {W : World} (hW : W = ((w.alloc (Obj.cells x.toArray t1)).alloc (Obj.cells y.toArray t2))) :
    Later w W ∧ Row W w.heap.size t1 x ∧ Row W (w.heap.size + 1) t2 y ∧ W.heap.size = w.heap.size + 2 := by
  subst hW
  refine ⟨((Later.refl w).alloc _).alloc _, (Row.new w _ _).alloc _, ?_, by simp⟩
  have := Row.new (w.alloc (Obj.cells x.toArray t1)) t2 y
  rw [World.size_alloc] at this; exact this

set_option maxHeartbeats 1000000 in
theorem may_calls (w : World) (a : Bool) (s u : Value) (A : Option Addr) (n c : Nat) (b : Bool) (y : Int) (k : Nat) (h : RawI w (.agg #[.bool b, .slice A n c]) y k) (hs : ∃ A' n' c', s = .slice A' n' c') (hk : k ≤ 500000000) :
    Calls Tryz.prog 120 #[.agg #[.bool a, s, .bool b, .slice A n c]] w (RetV w (.bool (decide (0 < y)))) := by
  obtain ⟨A', n', c', rfl⟩ := hs
  have H := hide h
  clear h
  go_enter Tryz.func120, Tryz.ntmps120
  go_wp2_with fail
  have hb0 : Later w (w.alloc (Obj.cells #[Value.bool a, Value.slice A' n' c', Value.bool b, Value.slice A n c] 37)) := (Later.refl w).alloc _
  refine (plain_calls _ _ y k (H.out.later hb0) (by omega)).mono ?_
  rintro e w1 ⟨v1, rfl, o1, b1⟩
  have hL := hb0.trans b1
  clear hb0
  obtain ⟨A1, n1, c1, rfl, o1⟩ := o1
  obtain ⟨A2, c2, f1, -, -, -, -⟩ := o1.reads.form
  injection f1 with g1 g2 g3
  subst g1 g3
  have HN := hide g2
  by_cases hy : y < 0
  · have t0 : decide (y < 0) = true := by simpa using hy
    have t1 : decide (0 < y) = false := by simp; omega
    have hp : 0 < n1 := by rw [g2]; exact length_limbs_pos.2 (by omega)
    have t2 : decide (0 < n1) = true := by simpa using hp
    rw [t0]
    clear g2 o1
    go_wp2_with fail
    go_ret
    exact ⟨by rw [t1]; rfl, ((hL.alloc _))⟩
  · have t0 : decide (y < 0) = false := by simpa using hy
    rw [t0]
    by_cases h0 : y = 0
    · have t1 : decide (0 < y) = false := by simp; omega
      have hp : n1 = 0 := by rw [g2, h0]; show (limbs 0).length = 0; rw [limbs_zero]; rfl
      clear g2 o1 HN
      subst hp
      go_wp2_with fail
      go_ret
      exact ⟨by rw [t1]; rfl, ((hL.alloc _))⟩
    · have t1 : decide (0 < y) = true := by simp; omega
      have hp : 0 < n1 := by rw [g2]; exact length_limbs_pos.2 (by omega)
      have t2 : decide (0 < n1) = true := by simpa using hp
      clear g2 o1
      go_wp2_with fail
      go_ret
      exact ⟨by rw [t1]; rfl, ((hL.alloc _))⟩

theorem exact_sgn {z : Int} {neg : Bool} {l : List Nat} (h : z = sgn neg (val l)) (g : Nat) : sgn neg (val l / g) = sgn (decide (z < 0)) (z.natAbs / g) := by
  rw [h, natAbs_sgn, neg_sgn]
  by_cases h0 : val l = 0
  · rw [h0]; simp [sgn]
  · have : decide (0 < val l) = true := by simp; omega
    rw [this, Bool.and_true]

set_option maxHeartbeats 1000000 in
theorem exact_calls (w : World) (v : Value) (z : Int) (k : Nat) (g G m : Nat) (B C : Option Addr) (n c : Nat) (h : RawI w v z k) (hg : 0 < g) (hr : Row w G 35 [.bool false, .slice C n c]) (hu : U32s w (.slice C n c) (limbs g)) (hk : k ≤ 500000000) (hgl : (limbs g).length ≤ 500000000)
    (z' : Int) (hz' : sgn (decide (z < 0)) (z.natAbs / g) = z') :
    Calls Tryz.prog 163 #[v, .pointer (some ⟨G, 0, none⟩)] w (Ret w fun w' v => OwnI w' w.heap.size v z') := by
  have hraw := h
  obtain ⟨neg, A, n', c', l, rfl, hl, hz, hlk⟩ := h
  have H := hide hraw; have HL := hide hl; have HR := hide hr; have HU := hide hu; have HZ := hide hz
  clear hraw hl hr hu
  go_enter Tryz.func163, Tryz.ntmps163
  obtain ⟨W0, hW0⟩ : ∃ W0, W0 = ((w.alloc (Obj.cells #[Value.bool neg, Value.slice A n' c'] 35)).alloc (Obj.cells #[Value.bool false, Value.slice none 0 0] 35)) := ⟨_, rfl⟩
  obtain ⟨hb0, r1, r2, hsz⟩ := boxes2 w [.bool neg, .slice A n' c'] [.bool false, .slice none 0 0] 35 35 hW0
  obtain ⟨c0, c1, f0, f1⟩ := row_cells2 (HR.out.later hb0)
  rw [hW0] at c0 c1 f0 f1
  go_wp2_with fail
  rw [← hW0]
  clear c0 c1 f0 f1 hW0
  have hge : 0 < val (limbs g) := by rw [val_limbs]; exact hg
  refine (div_calls _ _ _ l (limbs g) (HL.out.later hb0) (HU.out.later hb0) (by omega) (by omega) hge).mono ?_
  rintro e w1 ⟨q, r, ok, rfl, ⟨oq, -, rfl⟩, b1⟩
  rw [val_limbs] at oq
  obtain ⟨Q, q3, q4, rfl⟩ : ∃ Q q3 q4, q = .slice Q q3 q4 := by
    obtain ⟨Q, cq, e, -⟩ := oq.reads.form; exact ⟨Q, _, cq, e⟩
  obtain ⟨c0, c1, f0, f1⟩ := row_cells2 (r1.later b1)
  have hsg := exact_sgn HZ.out g
  rw [hz'] at hsg
  have HSG := hide hsg
  have hlq : (limbs (val l / g)).length ≤ k := Nat.le_trans (length_limbs_mono (Nat.div_le_self _ _)) (Nat.le_trans (length_limbs_val HL.out.1) hlk)
  have HLQ := hide hlq
  clear hsg hlq
  go_wp2_with fail
  refine (plain_calls _ _ z' k ⟨_, _, _, _, _, rfl, oq.reads, by rw [val_limbs]; exact HSG.out.symm, HLQ.out⟩ (by omega)).mono ?_
  rintro e w2 ⟨v2, rfl, o2, b2⟩
  obtain ⟨P2, q2, d2, rfl, o2⟩ := o2
  have hbb := b1.trans b2
  have hrow := r2.later hbb
  obtain ⟨i0, i1, i2, i3⟩ := row_cells2 hrow
  have hs1 := b1.size
  have HO := hide o2
  clear o2 oq
  go_wp2_with fail
  refine bodyPost_ret (results_int rfl rfl (hrow.two _ _)) rfl ?_
  refine ⟨_, rfl, ?_, (hb0.trans hbb).two (by omega) _ _⟩
  exact (OwnI.two (g := w.heap.size + 1) ⟨P2, q2, d2, rfl, HO.out⟩ (by omega) _ _).weaken (by omega)
end Go.Proofs.YthncinngkfflgaaGreat


/- Tools for struct variables: a write to one block alone, blocks that were just made, values taken apart. -/
set_option linter.unusedVariables false
set_option linter.unusedSimpArgs false
set_option maxRecDepth 100000
namespace Go.Proofs.YthncinngkfflgaaGreat
open Go.RowKit Go.Shelf

/-- writes to block g alone -/
structure Only (g : Nat) (w w' : World) : Prop where
  os : w'.os = w.os
  tape : w'.tape = w.tape
  output : w'.output = w.output
  size : w'.heap.size = w.heap.size
  block : ∀ b, b ≠ g → w'.heap[b]? = w.heap[b]?
theorem Only.refl (g : Nat) (w : World) : Only g w w := ⟨rfl, rfl, rfl, rfl, fun _ _ => rfl⟩
theorem Only.trans {g : Nat} {a b c : World} (h : Only g a b) (k : Only g b c) : Only g a c :=
  ⟨k.os.trans h.os, k.tape.trans h.tape, k.output.trans h.output, k.size.trans h.size, fun b hb => (k.block b hb).trans (h.block b hb)⟩
theorem Only.set {g : Nat} {w w' : World} (h : Only g w w') (i : Nat) (u : Value) : Only g w (w'.setCell ⟨g, i, none⟩ u) := by
  refine ⟨h.os, h.tape, h.output, by rw [World.size_setCell]; exact h.size, fun b hb => ?_⟩
  exact (Below.heap_setCell w' ⟨g, i, none⟩ u b hb).trans (h.block b hb)
theorem Only.one (g : Nat) (w : World) (i : Nat) (u : Value) : Only g w (w.setCell ⟨g, i, none⟩ u) := (Only.refl g w).set i u
theorem Only.two (g : Nat) (w : World) (x y : Value) : Only g w ((w.setCell ⟨g, 0, none⟩ x).setCell ⟨g, 1, none⟩ y) := ((Only.refl g w).set 0 x).set 1 y
theorem Only.four (g : Nat) (w : World) (x y z u : Value) : Only g w ((((w.setCell ⟨g, 0, none⟩ x).setCell ⟨g, 1, none⟩ y).setCell ⟨g, 2, none⟩ z).setCell ⟨g, 3, none⟩ u) := ((((Only.refl g w).set 0 x).set 1 y).set 2 z).set 3 u
theorem Later.only {a w w' : World} {g : Nat} (h : Later a w) (o : Only g w w') (hg : a.heap.size ≤ g) : Later a w' :=
  ⟨o.os.trans h.os, o.tape.trans h.tape, o.output.trans h.output, by rw [o.size]; exact h.size, fun b hb => (o.block b (by omega)).trans (h.block b hb)⟩
theorem Row.only {w w' : World} {g h : Nat} {t : TypeId} {cs : List Value} (r : Row w h t cs) (o : Only g w w') (hg : h ≠ g) : Row w' h t cs := (o.block h hg).trans r
theorem ownsRow_only {w w' : World} {B g : Nat} {e : TypeId} {size n : Nat} {v : Value} {xs : List Value} (h : w.ownsRow B e size v n xs) (o : Only g w w') (hg : g < B) : w'.ownsRow B e size v n xs := by
  obtain ⟨h2, h3⟩ := h
  refine ⟨h2, ?_⟩
  rcases h3 with h3 | ⟨k, cap, cur, rfl, hb, hk, r⟩
  · exact .inl h3
  · exact .inr ⟨k, cap, cur, rfl, hb, (o.block k (by omega)).trans hk, r⟩
theorem Own32.only {T : TypeId} {w w' : World} {B g : Nat} {v : Value} {l : List Nat} (h : Own32 T w B v l) (o : Only g w w') (hg : g < B) : Own32 T w' B v l := ⟨h.1, ownsRow_only h.2 o hg⟩
theorem OwnI.only {w w' : World} {B g : Nat} {v : Value} {z : Int} (h : OwnI w B v z) (o : Only g w w') (hg : g < B) : OwnI w' B v z := by
  obtain ⟨A, n, c, e, h⟩ := h; exact ⟨A, n, c, e, h.only o hg⟩
theorem OwnR.only {w w' : World} {B g : Nat} {v : Value} {q : Rat} (h : OwnR w B v q) (o : Only g w w') (hg : g < B) : OwnR w' B v q := by
  obtain ⟨A, n, c, A', n', c', e, h1, h2⟩ := h; exact ⟨A, n, c, A', n', c', e, h1.only o hg, h2.only o hg⟩

/-- an int of the program's, taken apart: a sign, a slice -/
theorem OwnI.open_ {w : World} {B : Nat} {v : Value} {z : Int} (h : OwnI w B v z) : ∃ s A n c, v = .agg #[.bool s, .slice A n c] ∧ OwnI w B (.agg #[.bool s, .slice A n c]) z := by
  obtain ⟨A, n, c, rfl, h'⟩ := id h
  exact ⟨_, A, n, c, rfl, h⟩
theorem OwnR.open_ {w : World} {B : Nat} {v : Value} {q : Rat} (h : OwnR w B v q) : ∃ s A n c A' n' c', v = .agg #[.bool s, .slice A n c, .bool false, .slice A' n' c'] ∧ OwnR w B (.agg #[.bool s, .slice A n c, .bool false, .slice A' n' c']) q := by
  obtain ⟨A, n, c, A', n', c', rfl, h'⟩ := id h
  exact ⟨_, A, n, c, A', n', c', rfl, h⟩
theorem RawI.open_ {w : World} {v : Value} {z : Int} {k : Nat} (h : RawI w v z k) : ∃ s A n c, v = .agg #[.bool s, .slice A n c] := by
  obtain ⟨n, A, m, c, l, e, h, e', hk⟩ := h; exact ⟨n, A, m, c, e⟩
theorem RawR.open_ {w : World} {v : Value} {q : Rat} {k : Nat} (h : RawR w v q k) : ∃ s A n c s' A' n' c', v = .agg #[.bool s, .slice A n c, .bool s', .slice A' n' c'] := by
  obtain ⟨a, A, n, c, b, A', n', c', x, y, e, h⟩ := h; exact ⟨a, A, n, c, b, A', n', c', e⟩
/-- the two numbers of a plain fraction -/
theorem OwnR.num {w : World} {B : Nat} {s s' : Bool} {A A' : Option Addr} {n c n' c' : Nat} {q : Rat} (h : OwnR w B (.agg #[.bool s, .slice A n c, .bool s', .slice A' n' c']) q) : OwnI w B (.agg #[.bool s, .slice A n c]) q.num := by
  obtain ⟨A, n, c, A', n', c', e, h1, h2⟩ := h
  injection e with e; injection e with e; injection e with e1 e; injection e with e2 e
  rw [e1, e2]
  exact ⟨A, n, c, rfl, h1⟩
theorem OwnR.den {w : World} {B : Nat} {s s' : Bool} {A A' : Option Addr} {n c n' c' : Nat} {q : Rat} (h : OwnR w B (.agg #[.bool s, .slice A n c, .bool s', .slice A' n' c']) q) : OwnI w B (.agg #[.bool s', .slice A' n' c']) q.den := by
  obtain ⟨A, n, c, A', n', c', e, h1, h2⟩ := h
  injection e with e; injection e with e; injection e with e1 e; injection e with e2 e; injection e with e3 e; injection e with e4 e
  rw [e3, e4]
  exact ⟨A', n', c', by rw [show decide ((q.den : Int) < 0) = false by simp], h2⟩
/-- whether a plain whole number is 0, by its limbs -/
theorem OwnI.len {w : World} {B : Nat} {s : Bool} {A : Option Addr} {n c : Nat} {z : Int} (h : OwnI w B (.agg #[.bool s, .slice A n c]) z) : n = (limbs z.natAbs).length := by
  obtain ⟨A, n, c, e, h⟩ := h
  obtain ⟨A2, c2, e2, -⟩ := h.reads.form
  injection e with e; injection e with e; injection e with e1 e; injection e with e3 e
  rw [e2] at e3; injection e3
theorem OwnI.sign {w : World} {B : Nat} {s : Bool} {A : Option Addr} {n c : Nat} {z : Int} (h : OwnI w B (.agg #[.bool s, .slice A n c]) z) : s = decide (z < 0) := by
  obtain ⟨A, n, c, e, h⟩ := h
  injection e with e; injection e with e; injection e with e1 e; injection e1
theorem OwnI.own {w : World} {B : Nat} {s : Bool} {A : Option Addr} {n c : Nat} {z : Int} (h : OwnI w B (.agg #[.bool s, .slice A n c]) z) : Own32 133 w B (.slice A n c) (limbs z.natAbs) := by
  obtain ⟨A, n, c, e, h⟩ := h
  injection e with e; injection e with e; injection e with e1 e; injection e with e3 e
  rw [e3]; exact h
theorem OwnI.mk_ {w : World} {B : Nat} {s : Bool} {A : Option Addr} {n c : Nat} {z : Int} (hs : s = decide (z < 0)) (h : Own32 133 w B (.slice A n c) (limbs z.natAbs)) : OwnI w B (.agg #[.bool s, .slice A n c]) z := ⟨A, n, c, by rw [hs], h⟩
theorem OwnR.mk_ {w : World} {B : Nat} {s : Bool} {A A' : Option Addr} {n c n' c' : Nat} {q : Rat} (h : OwnI w B (.agg #[.bool s, .slice A n c]) q.num) (h' : Own32 133 w B (.slice A' n' c') (limbs q.den)) : OwnR w B (.agg #[.bool s, .slice A n c, .bool false, .slice A' n' c']) q :=
  ⟨A, n, c, A', n', c', by rw [h.sign], h.own, h'⟩

theorem results_rat_bool {fn : Func} {t u : Tmp} {tmps : Array Value} {W : World} {b : Nat} {x y z v : Value} {ok : Bool} (h : fn.results = #[.cell t 37, .tmp u]) (hp : tmps[t]?.getD undef = .pointer (some ⟨b, 0, none⟩)) (hu : tmps[u]?.getD undef = .bool ok) (hr : Row W b 37 [x, y, z, v]) :
    (results fn tmps).run Tryz.prog W = .ok (.tuple #[.agg #[x, y, z, v], .bool ok]) W := by
  obtain ⟨c0, c1, c2, c3, -⟩ := row_cells4 hr
  simp [results, h, hp, hu, go_sem, c0, c1, c2, c3]

theorem boxes1 (w : World) (x : List Value) (t1 : TypeId) {W : World} (hW : W = w.alloc (Obj.cells x.toArray t1)) : Later w W ∧ Row W w.heap.size t1 x ∧ W.heap.size = w.heap.size + 1 := by
  subst hW
  exact ⟨(Later.refl w).alloc _, Row.new w _ _, by simp⟩
theorem boxes4 (w : World) (x y z u : List Value) (t1 t2 t3 t4 : TypeId) {W : World} (hW : W = (((w.alloc (Obj.cells x.toArray t1)).alloc (Obj.cells y.toArray t2)).alloc (Obj.cells z.toArray t3)).alloc (Obj.cells u.toArray t4)) :
    Later w W ∧ Row W w.heap.size t1 x ∧ Row W (w.heap.size + 1) t2 y ∧ Row W (w.heap.size + 2) t3 z ∧ Row W (w.heap.size + 3) t4 u ∧ W.heap.size = w.heap.size + 4 := by
  obtain ⟨V, hV⟩ : ∃ V, V = ((w.alloc (Obj.cells x.toArray t1)).alloc (Obj.cells y.toArray t2)).alloc (Obj.cells z.toArray t3) := ⟨_, rfl⟩
  obtain ⟨a, b, c, d, e⟩ := boxes3 w x y z t1 t2 t3 hV
  rw [← hV] at hW
  subst hW
  have := Row.new V t4 u
  rw [e] at this
  exact ⟨a.alloc _, b.alloc _, c.alloc _, d.alloc _, this, by simp [e]⟩
end Go.Proofs.YthncinngkfflgaaGreat


/- Fractions: by. -/
set_option linter.unusedVariables false
set_option linter.unusedSimpArgs false
set_option maxRecDepth 100000
namespace Go.Proofs.YthncinngkfflgaaGreat
open Go.RowKit Go.Shelf
attribute [local go_sem ↓] Go.wp_at_zero Go.wp_at_succ

theorem by_law {x y : Int} (hy : 0 < y) {q : Rat} (hq : q = mkRat x y.toNat) {g : Nat} (hg : g = Nat.gcd x.natAbs y.natAbs) :
    sgn (decide (x < 0)) (x.natAbs / g) = q.num ∧ sgn (decide (y < 0)) (y.natAbs / g) = (q.den : Int) ∧ 0 < g := by
  have hn : y.natAbs = y.toNat := by omega
  have h0 : y.toNat ≠ 0 := by omega
  rw [hn] at hg ⊢
  have hgp : 0 < g := by rw [hg]; exact Nat.gcd_pos_of_pos_right _ (by omega)
  rw [hq, Rat.mkRat_def, dif_neg h0, Rat.num_normalize, Rat.den_normalize, ← hg]
  refine ⟨?_, ?_, hgp⟩
  · obtain ⟨c, hc⟩ : g ∣ x.natAbs := by rw [hg]; exact Nat.gcd_dvd_left _ _
    rw [hc, Nat.mul_div_cancel_left _ hgp]
    by_cases hx : x < 0
    · have : x = -((g : Int) * (c : Int)) := by have : (x.natAbs : Int) = (g : Int) * c := by rw [hc]; simp
                                                omega
      rw [show decide (x < 0) = true by simpa using hx, this, ← Int.mul_neg, Int.mul_ediv_cancel_left _ (by omega)]
      rfl
    · have : x = ((g : Int) * (c : Int)) := by have : (x.natAbs : Int) = (g : Int) * c := by rw [hc]; simp
                                               omega
      rw [show decide (x < 0) = false by simpa using hx, this, Int.mul_ediv_cancel_left _ (by omega)]
      rfl
  · rw [show decide (y < 0) = false by simp; omega]; rfl

theorem mkRat_one (x : Int) : (mkRat x 1).num = x ∧ (mkRat x 1).den = 1 := by
  rw [Rat.mkRat_def, dif_neg (by omega), Rat.num_normalize, Rat.den_normalize]
  simp

/-- the variables of by -/
def ByAt (w : World) (x y : Int) (wx : World) : Prop :=
  ∃ s A n c s' A' n' c', Row wx w.heap.size 35 [.bool s, .slice A n c] ∧ Row wx (w.heap.size + 1) 35 [.bool s', .slice A' n' c'] ∧
    Row wx (w.heap.size + 2) 37 [.bool false, .slice none 0 0, .bool false, .slice none 0 0] ∧ OwnI wx (w.heap.size + 3) (.agg #[.bool s, .slice A n c]) x ∧
    OwnI wx (w.heap.size + 3) (.agg #[.bool s', .slice A' n' c']) y ∧ Later w wx ∧ w.heap.size + 3 ≤ wx.heap.size
/-- the same, the second above 0, and so many limbs at most -/
def ByPos (w : World) (k : Nat) (q : Rat) (wx : World) : Prop :=
  ∃ x y, 0 < y ∧ q = mkRat x y.toNat ∧ (limbs x.natAbs).length ≤ k ∧ (limbs y.natAbs).length ≤ k ∧ ByAt w x y wx

theorem by_stores {w W : World} {x y : Int} {s s' : Bool} {A A' : Option Addr} {n c n' c' : Nat} {a b a' b' : Value}
    (ra : Row W w.heap.size 35 [a, b]) (rb : Row W (w.heap.size + 1) 35 [a', b']) (rc : Row W (w.heap.size + 2) 37 [.bool false, .slice none 0 0, .bool false, .slice none 0 0])
    (ox : OwnI W (w.heap.size + 3) (.agg #[.bool s, .slice A n c]) x) (oy : OwnI W (w.heap.size + 3) (.agg #[.bool s', .slice A' n' c']) y) (hL : Later w W) (hs : w.heap.size + 3 ≤ W.heap.size) :
    ByAt w x y ((((W.setCell ⟨w.heap.size, 0, none⟩ (.bool s)).setCell ⟨w.heap.size, 1, none⟩ (.slice A n c)).setCell ⟨w.heap.size + 1, 0, none⟩ (.bool s')).setCell ⟨w.heap.size + 1, 1, none⟩ (.slice A' n' c')) ∧
    ByAt w x y ((((W.setCell ⟨w.heap.size + 1, 0, none⟩ (.bool s')).setCell ⟨w.heap.size + 1, 1, none⟩ (.slice A' n' c')).setCell ⟨w.heap.size, 0, none⟩ (.bool s)).setCell ⟨w.heap.size, 1, none⟩ (.slice A n c)) := by
  constructor
  · have o1 := Only.two w.heap.size W (.bool s) (.slice A n c)
    have r1 := ra.two (.bool s) (.slice A n c)
    obtain ⟨V, hV⟩ : ∃ V, V = (W.setCell ⟨w.heap.size, 0, none⟩ (.bool s)).setCell ⟨w.heap.size, 1, none⟩ (.slice A n c) := ⟨_, rfl⟩
    rw [← hV] at o1 r1 ⊢
    have o2 := Only.two (w.heap.size + 1) V (.bool s') (.slice A' n' c')
    exact ⟨s, A, n, c, s', A', n', c', r1.only o2 (by omega), (rb.only o1 (by omega)).two _ _, (rc.only o1 (by omega)).only o2 (by omega), (ox.only o1 (by omega)).only o2 (by omega), (oy.only o1 (by omega)).only o2 (by omega), (hL.only o1 (by omega)).only o2 (by omega), by rw [o2.size, o1.size]; exact hs⟩
  · have o1 := Only.two (w.heap.size + 1) W (.bool s') (.slice A' n' c')
    have r1 := rb.two (.bool s') (.slice A' n' c')
    obtain ⟨V, hV⟩ : ∃ V, V = (W.setCell ⟨w.heap.size + 1, 0, none⟩ (.bool s')).setCell ⟨w.heap.size + 1, 1, none⟩ (.slice A' n' c') := ⟨_, rfl⟩
    rw [← hV] at o1 r1 ⊢
    have o2 := Only.two w.heap.size V (.bool s) (.slice A n c)
    exact ⟨s, A, n, c, s', A', n', c', (ra.only o1 (by omega)).two _ _, r1.only o2 (by omega), (rc.only o1 (by omega)).only o2 (by omega), (ox.only o1 (by omega)).only o2 (by omega), (oy.only o1 (by omega)).only o2 (by omega), (hL.only o1 (by omega)).only o2 (by omega), by rw [o2.size, o1.size]; exact hs⟩

theorem rawI_zero (w : World) (k : Nat) : RawI w (.agg #[.bool false, .slice none 0 0]) 0 k := ⟨false, none, 0, 0, [], rfl, U32s.nil w, rfl, Nat.zero_le _⟩

theorem divInt_neg_pos {x y : Int} (hy : y < 0) : Rat.divInt x y = mkRat (0 - x) (0 - y).toNat := by
  have h : y = -((0 - y).toNat : Int) := by omega
  conv => lhs; rw [h]
  obtain ⟨m, hm⟩ : ∃ m, (0 - y).toNat = m + 1 := ⟨(0 - y).toNat - 1, by omega⟩
  rw [hm, Int.zero_sub]; rfl
theorem divInt_pos {x y : Int} (hy : 0 < y) : Rat.divInt x y = mkRat x y.toNat := by
  have h : y = (y.toNat : Int) := by omega
  conv => lhs; rw [h]
  rfl

set_option maxHeartbeats 4000000 in
theorem by_calls (w : World) (va vb : Value) (x y : Int) (k : Nat) (hx : RawI w va x k) (hy : RawI w vb y k) (hk : k ≤ 400000000) (hy0 : y ≠ 0) (q : Rat) (hq : q = Rat.divInt x y) :
    Calls Tryz.prog 132 #[va, vb] w (Ret w fun w' v => OwnR w' w.heap.size v q) := by
  have hlx := hx.limbs_le
  have hly := hy.limbs_le
  have HX := hide hx; have HY := hide hy; have HQ := hide hq
  obtain ⟨n1, A1, m1, c1, rfl⟩ := hx.open_
  obtain ⟨n2, A2, m2, c2, rfl⟩ := hy.open_
  clear hx hy hq
  go_enter Tryz.func132, Tryz.ntmps132
  go_upto_region 1 with fail
  go_cut [] (fun wx => ByAt w x y wx)
  case first =>
    obtain ⟨W0, hW0⟩ : ∃ W0, W0 = (((w.alloc (Obj.cells #[Value.bool n1, Value.slice A1 m1 c1] 35)).alloc (Obj.cells #[Value.bool n2, Value.slice A2 m2 c2] 35)).alloc (Obj.cells #[Value.bool false, Value.slice none 0 0, Value.bool false, Value.slice none 0 0] 37)) := ⟨_, rfl⟩
    obtain ⟨hb0, r1, r2, r3, hsz⟩ := boxes3 w [.bool n1, .slice A1 m1 c1] [.bool n2, .slice A2 m2 c2] [.bool false, .slice none 0 0, .bool false, .slice none 0 0] 35 35 37 hW0
    rw [← hW0]
    have hb0 := hb0.drew; have r1 := r1.drew; have r2 := r2.drew; have r3 := r3.drew
    obtain ⟨d1, d2, d3, d4⟩ := row_cells2 r1
    obtain ⟨d5, d6, d7, d8⟩ := row_cells2 r2
    have hsz : W0.drew.heap.size = w.heap.size + 3 := hsz
    have R1 := hide r1; have R2 := hide r2; have R3 := hide r3; have B0 := hide hb0
    clear hW0 r1 r2 r3 hb0
    go_region_with (first
      | ((with_reducible refine (plain_calls _ _ x k (HX.out.later B0.out) (by omega)).mono ?_); rintro e w1 ⟨v1, rfl, o1, b1⟩; obtain ⟨s1, P1, q1, e1, rfl, o1⟩ := o1.open_; have O1 := hide o1; clear o1; obtain ⟨i1, i2, i3, i4⟩ := row_cells2 (R1.out.later b1); obtain ⟨i5, i6, i7, i8⟩ := row_cells2 (R2.out.later b1))
      | ((with_reducible refine (plain_calls _ _ y k (HY.out.later (B0.out.trans b1)) (by omega)).mono ?_); rintro e w2 ⟨v2, rfl, o2, b2⟩; obtain ⟨s2, P2, q2, e2, rfl, o2⟩ := o2.open_; have O2 := hide o2; clear o2; obtain ⟨g1, g2, g3, g4⟩ := row_cells2 (R1.out.later (b1.trans b2)); obtain ⟨g5, g6, g7, g8⟩ := row_cells2 (R2.out.later (b1.trans b2))))
    all_goals
      have hb := b1.trans b2
      have hs1 := b1.size
      have hs2 := hb.size
      have hS := by_stores (R1.out.later hb) (R2.out.later hb) (R3.out.later hb) ((O1.out.later b2).weaken (by omega)) (O2.out.weaken (by omega)) (B0.out.trans hb) (by omega)
      have HS := hide hS
      clear hS
      go_wp2_with fail
      go_meet
      first | exact HS.out.1 | exact HS.out.2
  case rest =>
    obtain ⟨s, A, n, c, s', A', n', c', r1, r2, r3, ox, oy, hL, hsz⟩ := hcut
    obtain ⟨d1, d2, d3, d4⟩ := row_cells2 r1
    obtain ⟨d5, d6, d7, d8⟩ := row_cells2 r2
    have R1 := hide r1; have R2 := hide r2; have R3 := hide r3; have OX := hide ox; have OY := hide oy
    have HS := hide oy.sign
    clear HX HY r1 r2 r3 ox oy
    go_upto_if 12 with fail
    go_cut [] (fun wx => ByPos w (k+1) q wx)
    case first =>
      by_cases hneg : y < 0
      · have hs' : s' = true := by rw [HS.out]; simpa using hneg
        subst hs'
        have hrx := hide (OX.out.raw hlx); have hry := hide (OY.out.raw hly)
        have D0 := hide ((Later.refl wc).drew)
        have r1 := R1.out.drew; have r2 := R2.out.drew
        have R1d := hide r1; have R2d := hide r2
        obtain ⟨p1, p2, p3, p4⟩ := row_cells2 r1
        obtain ⟨p5, p6, p7, p8⟩ := row_cells2 r2
        have hszd : w.heap.size + 3 ≤ wc.drew.heap.size := hsz
        clear r1 r2
        go_wp2_with fail
        go_region_with (first
          | ((with_reducible refine (wsub_calls _ _ _ 0 x 0 k (rawI_zero _ _) (hrx.out.later D0.out) (by omega) (by omega)).mono ?_); rintro e w1 ⟨v1, rfl, o1, b1⟩; obtain ⟨s1, P1, q1, e1, rfl, o1⟩ := o1.open_; have O1 := hide o1; clear o1; obtain ⟨i1, i2, i3, i4⟩ := row_cells2 (R1d.out.later b1); obtain ⟨i5, i6, i7, i8⟩ := row_cells2 (R2d.out.later b1))
          | ((with_reducible refine (wsub_calls _ _ _ 0 y 0 k (rawI_zero _ _) (hry.out.later (D0.out.trans b1)) (by omega) (by omega)).mono ?_); rintro e w2 ⟨v2, rfl, o2, b2⟩; obtain ⟨s2, P2, q2, e2, rfl, o2⟩ := o2.open_; have O2 := hide o2; clear o2; obtain ⟨g1, g2, g3, g4⟩ := row_cells2 (R1d.out.later (b1.trans b2)); obtain ⟨g5, g6, g7, g8⟩ := row_cells2 (R2d.out.later (b1.trans b2))))
        all_goals
          have hb := b1.trans b2
          have hs1 := b1.size
          have hs2 := hb.size
          have hS := by_stores (R1d.out.later hb) (R2d.out.later hb) (R3.out.drew.later hb) ((O1.out.later b2).weaken (by omega)) (O2.out.weaken (by omega)) (hL.drew.trans hb) (by omega)
          have HS := hide hS
          have hP : ∀ wx, ByAt w (0 - x) (0 - y) wx → ByPos w (k+1) q wx := fun wx h => ⟨0 - x, 0 - y, by omega, by rw [HQ.out, divInt_neg_pos hneg], by rw [Int.zero_sub, Int.natAbs_neg]; omega, by rw [Int.zero_sub, Int.natAbs_neg]; omega, h⟩
          have HP := hide hP
          clear hS hP
          go_wp2_with fail
          go_meet
          first | exact HP.out _ HS.out.1 | exact HP.out _ HS.out.2
      · have hs' : s' = false := by rw [HS.out]; simpa using hneg
        subst hs'
        go_wp2_with fail
        go_meet
        exact ⟨x, y, by omega, by rw [HQ.out, divInt_pos (by omega)], by omega, by omega, ⟨_, _, _, _, _, _, _, _, R1.out, R2.out, R3.out, OX.out, OY.out, hL, hsz⟩⟩
    case rest =>
      clear R1 R2 R3 OX OY HS HQ d1 d2 d3 d4 d5 d6 d7 d8 hlx hly hy0 hL hsz
      obtain ⟨x', y', hpos, hq, hlx, hly, s, A, n, c, s', A', n', c', r1, r2, r3, ox, oy, hL, hsz⟩ := hcut
      have hs' : s' = false := by rw [oy.sign]; simp; omega
      subst hs'
      obtain ⟨d1, d2, d3, d4⟩ := row_cells2 r1
      obtain ⟨d5, d6, d7, d8⟩ := row_cells2 r2
      obtain ⟨d9, d10, d11, d12, d13, d14, d15, d16⟩ := row_cells4 r3
      have R1 := hide r1; have R2 := hide r2; have R3 := hide r3; have OX := hide ox; have OY := hide oy; have HQ := hide hq
      have HN := hide oy.len
      clear r1 r2 r3 ox oy hq
      obtain ⟨one, hone⟩ : ∃ b : Bool, b = decide (y' = 1) := ⟨_, rfl⟩
      have HONE := hide hone
      clear hone
      go_upto_region 4 with fail
      go_cut [29] (fun t wx => t = .bool one ∧ wx = wc)
      case first =>
        by_cases h1 : n' = 1
        · subst h1
          obtain ⟨h6, h4, h5⟩ := limbs_of_one HN.out.symm
          obtain ⟨A3, c3, f3, -, -, -, hcc⟩ := OY.out.own.reads.form
          injection f3 with f4 f5 f6
          subst f4 f6
          rw [h6] at hcc
          obtain ⟨b2, ob2, rfl, hcc2⟩ := hcc.at_ (k := 0) (by simp [nums])
          have hcl := hcc2 0 (.int .u32 (y'.natAbs : Int)) rfl
          simp only [Nat.add_zero] at hcl
          clear hcc hcc2 f5 h6
          have ht : (((y'.natAbs : Nat) : Int) == 1) = one := by rw [HONE.out, Bool.eq_iff_iff]; simp; omega
          have HT := hide ht
          clear ht
          go_wp2_with fail
          go_meet
          exact ⟨by rw [HT.out], rfl⟩
        · have t1 : ((n' : Int) == 1) = false := by simp; omega
          have ht : one = false := by
            rw [HONE.out]; simp; intro e; apply h1; rw [HN.out, e]; show (limbs 1).length = 1; rw [limbs_pos (by omega), limbs_zero]; rfl
          have HT := hide ht
          clear ht
          go_wp2_with fail
          go_meet
          exact ⟨by rw [HT.out], rfl⟩
      case rest =>
        obtain ⟨rfl, rfl⟩ := hcut
        cases one
        case true =>
          have hy1 : y' = 1 := by have := HONE.out; simpa using this.symm
          have h9 : q.num = x' ∧ q.den = 1 := by
            rw [HQ.out, hy1]; exact mkRat_one x'
          have H9 := hide h9
          clear h9 hy1
          go_wp2_with fail
          refine bodyPost_ret (results_rat rfl rfl (R3.out.four _ _ _ _)) rfl ?_
          have oo := Only.four (w.heap.size + 2) wc (.bool s) (.slice A n c) (.bool false) (.slice A' n' c')
          refine ⟨_, rfl, OwnR.weaken (OwnR.mk_ ?_ ?_) (by omega : w.heap.size ≤ w.heap.size + 3), hL.only oo (by omega)⟩
          · rw [H9.out.1]; exact OX.out.only oo (by omega)
          · rw [H9.out.2]
            have e1 : y'.natAbs = 1 := by have := HONE.out; simp at this; omega
            have := (OY.out.only oo (by omega)).own
            rw [e1] at this; exact this
        case false =>
          have hrx := hide (OX.out.raw hlx); have hry := hide (OY.out.raw hly)
          go_wp2_with fail
          refine (gcd_calls _ _ _ _ _ OX.out.own.reads OY.out.own.reads (by omega) (by omega)).mono ?_
          rintro e w1 ⟨gv, rfl, og, b1⟩
          rw [val_limbs, val_limbs] at og
          obtain ⟨g, hg⟩ : ∃ g, g = Nat.gcd x'.natAbs y'.natAbs := ⟨_, rfl⟩
          rw [← hg] at og
          obtain ⟨z1, z2, hgp⟩ := by_law hpos HQ.out hg
          have hgl : (limbs g).length ≤ k + 1 := Nat.le_trans (length_limbs_mono (by rw [hg]; exact Nat.gcd_le_right _ (by omega))) hly
          obtain ⟨G, g1, g2, rfl⟩ : ∃ Q q3 q4, gv = .slice Q q3 q4 := by
            obtain ⟨Q, cq, e, -⟩ := og.reads.form; exact ⟨Q, _, cq, e⟩
          clear d1 d2 d3 d4 d5 d6 d7 d8 d9 d10 d11 d12 d13 d14 d15 d16
          obtain ⟨d1, d2, d3, d4⟩ := row_cells2 (R1.out.later b1)
          obtain ⟨d5, d6, d7, d8⟩ := row_cells2 (R2.out.later b1)
          obtain ⟨d9, d10, d11, d12, d13, d14, d15, d16⟩ := row_cells4 (R3.out.later b1)
          have HZ1 := hide z1; have HZ2 := hide z2; have OG := hide og.reads
          clear z1 z2 hg og
          go_upto_region 8 with fail
          obtain ⟨W1, hW1⟩ : ∃ W1, W1 = w1.alloc (Obj.cells #[Value.bool false, Value.slice G g1 g2] 35) := ⟨_, rfl⟩
          have hb1 : Later wc W1 := by rw [hW1]; exact b1.alloc _
          have hb2 : Later w1 W1 := by rw [hW1]; exact (Later.refl w1).alloc _
          have hrg : Row W1 w1.heap.size 35 [.bool false, .slice G g1 g2] := by rw [hW1]; exact Row.new w1 35 [.bool false, .slice G g1 g2]
          rw [← hW1]
          clear hW1 d1 d2 d3 d4 d5 d6 d7 d8 d9 d10 d11 d12 d13 d14 d15 d16
          have HEX : Hid (∀ W', Later W1.drew W' → Calls Tryz.prog 163 #[.agg #[.bool s, .slice A n c], .pointer (some ⟨w1.heap.size, 0, none⟩)] W' (Ret W' fun w' v => OwnI w' W'.heap.size v q.num)) := hide fun W' hb =>
            exact_calls W' _ x' (k+1) g w1.heap.size 0 none G g1 g2 (hrx.out.later (hb1.drew.trans hb)) hgp (hrg.drew.later hb) (OG.out.later (hb2.drew.trans hb)) (by omega) (by omega) q.num HZ1.out
          have HEY : Hid (∀ W', Later W1.drew W' → Calls Tryz.prog 163 #[.agg #[.bool false, .slice A' n' c'], .pointer (some ⟨w1.heap.size, 0, none⟩)] W' (Ret W' fun w' v => ∃ A n c, v = .agg #[.bool false, .slice A n c] ∧ Own32 133 w' W'.heap.size (.slice A n c) (limbs q.den))) := hide fun W' hb => by
            refine (exact_calls W' _ y' (k+1) g w1.heap.size 0 none G g1 g2 (hry.out.later (hb1.drew.trans hb)) hgp (hrg.drew.later hb) (OG.out.later (hb2.drew.trans hb)) (by omega) (by omega) (q.den : Int) HZ2.out).mono ?_
            rintro e w' ⟨v, rfl, o, b⟩
            obtain ⟨s3, A3, n3, c3, rfl, o⟩ := o.open_
            have : s3 = false := by rw [o.sign]; simp
            subst this
            exact ⟨_, rfl, ⟨_, _, _, rfl, o.own⟩, b⟩
          have r1 := R1.out.later hb1.drew; have r2 := R2.out.later hb1.drew; have r3 := R3.out.later hb1.drew
          have R1 := hide r1; have R2 := hide r2; have R3 := hide r3
          have HT1 : Hid (∀ w', Later W1.drew w' → w'.cell? ⟨w.heap.size, 0, none⟩ = some (.bool s) ∧ w'.cell? ⟨w.heap.size, 1, none⟩ = some (.slice A n c) ∧ w'.cell? ⟨w.heap.size + 1, 0, none⟩ = some (.bool false) ∧ w'.cell? ⟨w.heap.size + 1, 1, none⟩ = some (.slice A' n' c')) :=
            hide fun w' hb => ⟨(r1.later hb).cell rfl, (r1.later hb).cell rfl, (r2.later hb).cell rfl, (r2.later hb).cell rfl⟩
          have HT2 : Hid (∀ w' a b c1 d, Later W1.drew w' → ((((w'.setCell ⟨w.heap.size + 2, 0, none⟩ a).setCell ⟨w.heap.size + 2, 1, none⟩ b).setCell ⟨w.heap.size + 2, 2, none⟩ c1).setCell ⟨w.heap.size + 2, 3, none⟩ d).cell? ⟨w.heap.size, 0, none⟩ = some (.bool s) ∧ ((((w'.setCell ⟨w.heap.size + 2, 0, none⟩ a).setCell ⟨w.heap.size + 2, 1, none⟩ b).setCell ⟨w.heap.size + 2, 2, none⟩ c1).setCell ⟨w.heap.size + 2, 3, none⟩ d).cell? ⟨w.heap.size, 1, none⟩ = some (.slice A n c) ∧ ((((w'.setCell ⟨w.heap.size + 2, 0, none⟩ a).setCell ⟨w.heap.size + 2, 1, none⟩ b).setCell ⟨w.heap.size + 2, 2, none⟩ c1).setCell ⟨w.heap.size + 2, 3, none⟩ d).cell? ⟨w.heap.size + 1, 0, none⟩ = some (.bool false) ∧ ((((w'.setCell ⟨w.heap.size + 2, 0, none⟩ a).setCell ⟨w.heap.size + 2, 1, none⟩ b).setCell ⟨w.heap.size + 2, 2, none⟩ c1).setCell ⟨w.heap.size + 2, 3, none⟩ d).cell? ⟨w.heap.size + 1, 1, none⟩ = some (.slice A' n' c')) :=
            hide fun w' a b c1 d hb => ⟨((r1.later hb).far4 (by omega) a b c1 d).cell rfl, ((r1.later hb).far4 (by omega) a b c1 d).cell rfl, ((r2.later hb).far4 (by omega) a b c1 d).cell rfl, ((r2.later hb).far4 (by omega) a b c1 d).cell rfl⟩
          have HB1 := hide hb1.drew
          have hs0 := HB1.out.size
          clear hb1 hb2 hrg OG r1 r2 r3
          rename_i K2 hK2
          go_region_held3 (fun w' => w'.cell? ⟨w.heap.size, 0, none⟩ = some (.bool s) ∧ w'.cell? ⟨w.heap.size, 1, none⟩ = some (.slice A n c) ∧ w'.cell? ⟨w.heap.size + 1, 0, none⟩ = some (.bool false) ∧ w'.cell? ⟨w.heap.size + 1, 1, none⟩ = some (.slice A' n' c'))
            (first | exact HT1.out _ (Later.refl _) | exact HT1.out _ b3 | exact HT1.out _ (b3.trans b4) | exact HT2.out _ _ _ _ _ (b3.trans b4))
            (first
              | ((with_reducible refine (HEX.out _ (Later.refl _)).mono ?_); rintro e w3 ⟨v3, rfl, o3, b3⟩; obtain ⟨s3, Q1, q3, q4, rfl, o3⟩ := o3.open_; have O3 := hide o3; clear o3)
              | ((with_reducible refine (HEY.out _ b3).mono ?_); rintro e w4 ⟨v4, rfl, o4, b4⟩; obtain ⟨Q2, q5, q6, rfl, o4⟩ := o4; have O4 := hide o4; clear o4; obtain ⟨e1, e2, e3, e4, e5, e6, e7, e8⟩ := row_cells4 (R3.out.later (b3.trans b4))))
          show K2 _ _
          refine hK2 _ _ ?_
          have hb := b3.trans b4
          have hrow := R3.out.later hb
          have hs3 := b3.size
          clear e1 e2 e3 e4 e5 e6 e7 e8 hK2
          go_wp2_with fail
          refine bodyPost_ret (results_rat rfl rfl (hrow.four _ _ _ _)) rfl ?_
          have oo := Only.four (w.heap.size + 2) w4 (.bool s3) (.slice Q1 q3 q4) (.bool false) (.slice Q2 q5 q6)
          refine ⟨_, rfl, OwnR.weaken (OwnR.mk_ (B := w.heap.size + 3) ?_ ?_) (by omega), (hL.trans (HB1.out.trans hb)).only oo (by omega)⟩
          · exact ((O3.out.later b4).only oo (by omega)).weaken (by omega)
          · exact (O4.out.only oo (by omega)).weaken (by omega)
end Go.Proofs.YthncinngkfflgaaGreat


/- Plain laws of fractions: sums, products by numerators and denominators; how large. No program is in sight here. -/
set_option linter.unusedVariables false
set_option linter.unusedSimpArgs false
namespace Go.Proofs.YthncinngkfflgaaGreat

theorem den_ne (a : Rat) : (a.den : Rat) ≠ 0 := by have := a.den_nz; simpa using this
theorem num_eq (a : Rat) : (a.num : Rat) = a * (a.den : Rat) := by
  have h := Rat.mkRat_self a
  rw [Rat.mkRat_eq_div] at h
  have h2 := den_ne a
  grind
theorem ratOf_add (a b : Rat) : Rat.divInt (a.num * b.den + b.num * a.den) (a.den * b.den) = a + b := by
  rw [Rat.divInt_eq_div]
  simp only [Rat.intCast_add, Rat.intCast_mul, Rat.intCast_natCast, num_eq]
  have := den_ne a; have := den_ne b
  grind
theorem ratOf_sub (a b : Rat) : Rat.divInt (a.num * b.den - b.num * a.den) (a.den * b.den) = a - b := by
  rw [Rat.divInt_eq_div]
  simp only [Rat.intCast_sub, Rat.intCast_mul, Rat.intCast_natCast, num_eq]
  have := den_ne a; have := den_ne b
  grind
theorem ratOf_mul (a b : Rat) : Rat.divInt (a.num * b.num) (a.den * b.den) = a * b := by
  rw [Rat.divInt_eq_div]
  simp only [Rat.intCast_mul, Rat.intCast_natCast, num_eq]
  have := den_ne a; have := den_ne b
  grind
theorem ratOf_div (a b : Rat) : Rat.divInt (a.num * b.den) (a.den * b.num) = a / b := by
  rw [Rat.divInt_eq_div]
  simp only [Rat.intCast_mul, Rat.intCast_natCast, num_eq]
  have := den_ne a; have := den_ne b
  by_cases h : b = 0
  · subst h; simp [Rat.div_def]
  · grind
/-- how one fraction stands to another -/
def cmpQ (a b : Rat) : Int := if a < b then -1 else if b < a then 1 else 0
theorem cmpQ_eq (a b : Rat) : cmpQ a b = if a.num * b.den < b.num * a.den then -1 else if b.num * a.den < a.num * b.den then 1 else 0 := by
  unfold cmpQ; simp only [Rat.lt_iff]

theorem divInt_parts {x y : Int} (hy : y ≠ 0) : (Rat.divInt x y).num.natAbs ≤ x.natAbs ∧ (Rat.divInt x y).den ≤ y.natAbs := by
  have key : ∀ (x : Int) (n : Nat), n ≠ 0 → (mkRat x n).num.natAbs ≤ x.natAbs ∧ (mkRat x n).den ≤ n := by
    intro x n hn
    rw [Rat.mkRat_def, dif_neg hn, Rat.num_normalize, Rat.den_normalize]
    refine ⟨?_, Nat.div_le_self _ _⟩
    exact Int.natAbs_ediv_le_natAbs _ _
  rcases Int.lt_or_gt_of_ne hy with h | h
  · have h1 : y = -((-y).toNat : Int) := by omega
    obtain ⟨m, hm⟩ : ∃ m, (-y).toNat = m + 1 := ⟨(-y).toNat - 1, by omega⟩
    have h2 := key (-x) (m+1) (by omega)
    rw [Int.natAbs_neg] at h2
    have h3 : Rat.divInt x y = mkRat (-x) (m+1) := by
      conv => lhs; rw [h1, hm]
      rfl
    rw [h3]; exact ⟨h2.1, by omega⟩
  · have h1 : y = (y.toNat : Int) := by omega
    have h2 := key x y.toNat (by omega)
    have h3 : Rat.divInt x y = mkRat x y.toNat := by
      conv => lhs; rw [h1]
      rfl
    rw [h3]; exact ⟨h2.1, by omega⟩

theorem Sized.mono {q : Rat} {k m : Nat} (h : Sized q k) (hm : k ≤ m) : Sized q m := ⟨Nat.le_trans h.1 hm, Nat.le_trans h.2 hm⟩
theorem sized_divInt {x y : Int} {k : Nat} (hy : y ≠ 0) (hx : (limbs x.natAbs).length ≤ k) (hy' : (limbs y.natAbs).length ≤ k) : Sized (Rat.divInt x y) k := by
  have h := divInt_parts (x := x) hy
  exact ⟨Nat.le_trans (length_limbs_mono h.1) hx, Nat.le_trans (length_limbs_mono h.2) hy'⟩
theorem limbs_add_len1 {a b : Nat} {k : Nat} (ha : (limbs a).length ≤ k) (hb : (limbs b).length ≤ k) : (limbs (a + b)).length ≤ k + 1 := by
  refine length_limbs_le ?_
  have h1 := Nat.lt_of_lt_of_le (lt_of_length_limbs a) (Nat.pow_le_pow_right (by omega) ha)
  have h2 := Nat.lt_of_lt_of_le (lt_of_length_limbs b) (Nat.pow_le_pow_right (by omega) hb)
  rw [Nat.pow_succ]; omega
theorem limbs_mulZ {a b : Int} {k m : Nat} (ha : (limbs a.natAbs).length ≤ k) (hb : (limbs b.natAbs).length ≤ m) : (limbs (a * b).natAbs).length ≤ k + m := by
  rw [Int.natAbs_mul]; exact limbs_mul_len ha hb
theorem limbs_addZ {a b : Int} {k : Nat} (ha : (limbs a.natAbs).length ≤ k) (hb : (limbs b.natAbs).length ≤ k) : (limbs (a + b).natAbs).length ≤ k + 1 :=
  Nat.le_trans (length_limbs_mono (Int.natAbs_add_le a b)) (limbs_add_len1 ha hb)
theorem limbs_subZ {a b : Int} {k : Nat} (ha : (limbs a.natAbs).length ≤ k) (hb : (limbs b.natAbs).length ≤ k) : (limbs (a - b).natAbs).length ≤ k + 1 := by
  rw [Int.sub_eq_add_neg]; exact limbs_addZ ha (by rw [Int.natAbs_neg]; exact hb)
theorem limbs_castZ {n : Nat} {k : Nat} (h : (limbs n).length ≤ k) : (limbs (n : Int).natAbs).length ≤ k := by rw [Int.natAbs_natCast]; exact h
theorem den_mul_ne (a b : Rat) : ((a.den : Int) * (b.den : Int)) ≠ 0 := by
  have h1 := a.den_nz; have h2 := b.den_nz
  intro h; rcases Int.mul_eq_zero.1 h with h | h <;> omega
theorem Sized.add {a b : Rat} {k m : Nat} (ha : Sized a k) (hb : Sized b m) : Sized (a + b) (k + m + 1) := by
  rw [← ratOf_add]
  refine sized_divInt (den_mul_ne a b) (limbs_addZ (k := k + m) (limbs_mulZ ha.1 (limbs_castZ hb.2)) ?_) (Nat.le_succ_of_le (limbs_mulZ (limbs_castZ ha.2) (limbs_castZ hb.2)))
  rw [Nat.add_comm]; exact limbs_mulZ hb.1 (limbs_castZ ha.2)
theorem Sized.sub {a b : Rat} {k m : Nat} (ha : Sized a k) (hb : Sized b m) : Sized (a - b) (k + m + 1) := by
  rw [← ratOf_sub]
  refine sized_divInt (den_mul_ne a b) (limbs_subZ (k := k + m) (limbs_mulZ ha.1 (limbs_castZ hb.2)) ?_) (Nat.le_succ_of_le (limbs_mulZ (limbs_castZ ha.2) (limbs_castZ hb.2)))
  rw [Nat.add_comm]; exact limbs_mulZ hb.1 (limbs_castZ ha.2)
theorem Sized.mul {a b : Rat} {k m : Nat} (ha : Sized a k) (hb : Sized b m) : Sized (a * b) (k + m) := by
  rw [← ratOf_mul]
  exact sized_divInt (den_mul_ne a b) (limbs_mulZ ha.1 hb.1) (limbs_mulZ (limbs_castZ ha.2) (limbs_castZ hb.2))
theorem Sized.zero (k : Nat) : Sized 0 (k+1) := by
  constructor
  · show (limbs 0).length ≤ k+1; rw [limbs_zero]; simp
  · show (limbs 1).length ≤ k+1; rw [limbs_pos (by omega), limbs_zero]; simp
theorem Sized.div {a b : Rat} {k m : Nat} (ha : Sized a k) (hb : Sized b m) : Sized (a / b) (k + m + 1) := by
  by_cases h : b = 0
  · subst h; rw [show a / 0 = 0 by simp [Rat.div_def]]; exact Sized.zero _
  · rw [← ratOf_div]
    refine (sized_divInt ?_ (limbs_mulZ ha.1 (limbs_castZ hb.2)) (limbs_mulZ (limbs_castZ ha.2) hb.1)).mono (by omega)
    intro h0
    have := a.den_nz
    rcases Int.mul_eq_zero.1 h0 with h0 | h0
    · omega
    · exact h (Rat.num_eq_zero.1 h0)
theorem ratOf_pos {x y : Int} (h : 0 < y) : ratOf x y = Rat.divInt x y := by
  unfold ratOf; rw [if_pos h]
  have h1 : y = (y.toNat : Int) := by omega
  conv => rhs; rw [h1]
  rfl
theorem ratOf_not {x y : Int} (h : ¬ 0 < y) : ratOf x y = 0 := by unfold ratOf; rw [if_neg h]
theorem sized_ratOf {x y : Int} {k : Nat} (hx : (limbs x.natAbs).length ≤ k) (hy : (limbs y.natAbs).length ≤ k) : Sized (ratOf x y) (k+1) := by
  by_cases h : 0 < y
  · rw [ratOf_pos h]; exact (sized_divInt (by omega) hx hy).mono (by omega)
  · rw [ratOf_not h]; exact Sized.zero k
end Go.Proofs.YthncinngkfflgaaGreat
