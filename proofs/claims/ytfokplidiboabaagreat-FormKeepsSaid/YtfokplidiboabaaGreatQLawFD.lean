import Derived.Test.YtfokplidiboabaaGreatRows
import Derived.Test.YtfokplidiboabaaGreatQ26

set_option linter.unusedVariables false
set_option linter.unusedSimpArgs false
set_option maxRecDepth 100000
namespace Go.Proofs.YtfokplidiboabaaGreat
open Go.RowKit Go.Shelf
attribute [local go_sem ↓] Go.wp_at_zero Go.wp_at_succ

theorem tkB {P : Program} {md : Region.Mode} {ops : Array Oper} {Q : Exit → Act → World → Prop} {S : World → Prop} {nf : List Nat} {fuel : Nat} {listed l' : Array Bool} {a a' : Act} {w : World} (d : Nat) (i : Nat) {oi : Oper} {v : Value}
    (h : wpAnyN P md ops Q S nf fuel l' a' w) (hi : ops[i]? = some oi := by rfl) (hy : ∀ w, S w → (execOp a.eval oi).run P w = .ok (.value v) w := by (intro w hSw; (try dsimp only at hSw); go_simp; first | done | with_reducible rfl)) (hw : Region.wanted oi (yielded ops a.tmps) = true := by rfl) (hd : oi.dst = some d := by rfl)
    (hp : a.put (some d) v = a' := by (first | (simp only [Act.put, List.setIfInBounds_toArray, List.set_cons_zero, List.set_cons_succ] <;> rfl) | rfl)) (hl : listed.setIfInBounds i true = l' := by (first | (simp only [List.setIfInBounds_toArray, List.set_cons_zero, List.set_cons_succ] <;> rfl) | rfl))
    (hs : Region.noSelect ops = true := by kernel_rfl) (hf : Region.free md ops listed i = true := by kernel_rfl) (hb : behind md ops nf i = true := by kernel_rfl) (hr : (Region.ready md ops listed).contains i = true := by kernel_rfl)
    (hQ : ∀ c a w, Q (.panic c) (a.put oi.dst v) w → Q (.panic c) a w := by exact fun _ _ _ h => h) (hS : S w := by assumption) : wpAnyN P md ops Q S nf (fuel + 1) listed a w :=
  wpAnyN_take hi hs hf hb hr hQ (Or.inl ⟨hw, hy⟩) hS (by rw [hd, hp, hl]; exact h)
theorem rawI_neg {w : World} {s : Bool} {A : Option Addr} {n c : Nat} {z : Int} {k : Nat} (h : RawI w (.agg #[.bool s, .slice A n c]) z k) : RawI w (.agg #[.bool (!s), .slice A n c]) (-z) k := by
  obtain ⟨neg, A', n', c', l, e, hu, hz, hl⟩ := h
  injection e with e; injection e with e; injection e with e1 e; injection e with e2 e
  injection e1 with e1
  subst e1
  rw [← e2] at hu
  exact ⟨!s, _, _, _, l, rfl, hu, by rw [hz]; cases s <;> simp [sgn], hl⟩

set_option maxHeartbeats 4000000 in
theorem zsub_calls (w : World) (va vb : Value) (x y : Int) (k m : Nat) (hx : RawI w va x k) (hy : RawI w vb y m) (hk : k ≤ 90000000) (hm : m ≤ 90000000) :
    Calls Tryz.prog 101 #[va, vb] w (Ret w fun w' v => OwnI w' w.heap.size v (x - y)) := by
  obtain ⟨z, hz⟩ : ∃ z, z = x - y := ⟨_, rfl⟩
  rw [← hz]
  have hz2 : x + -y = z := by omega
  have HX := hide hx; have HY := hide hy; have HZ := hide hz2
  obtain ⟨n1, A1, m1, c1, rfl⟩ := hx.open_
  obtain ⟨n2, A2, m2, c2, rfl⟩ := hy.open_
  clear hx hy hz hz2
  go_enter Tryz.func101, Tryz.ntmps101
  go_wp2_with fail
  obtain ⟨W0, hW0⟩ : ∃ W0, W0 = (((w.alloc (Obj.cells #[Value.bool n1, Value.slice A1 m1 c1] 34)).alloc (Obj.cells #[Value.bool n2, Value.slice A2 m2 c2] 34)).alloc (Obj.cells #[Value.bool false, Value.slice none 0 0] 34)) := ⟨_, rfl⟩
  obtain ⟨hb0, r1, r2, r3, hsz⟩ := boxes3 w [.bool n1, .slice A1 m1 c1] [.bool n2, .slice A2 m2 c2] [.bool false, .slice none 0 0] 34 34 34 hW0
  rw [← hW0]
  have R3 := hide r3; have B0 := hide hb0
  clear hW0 r1 r2 r3 hb0
  refine (zadd_calls _ _ _ x (-y) k m (HX.out.later B0.out) (rawI_neg (HY.out.later B0.out)) (by omega) (by omega)).mono ?_
  rintro e w1 ⟨v1, rfl, o1, b1⟩
  rw [HZ.out] at o1
  obtain ⟨s1, P1, q1, e1, rfl, o1⟩ := o1.open_; have O1 := hide o1; clear o1
  have HR := hide (R3.out.later b1)
  have hL := B0.out.trans b1
  obtain ⟨d1, d2, d3, d4⟩ := row_cells2 HR.out
  go_wp2_with fail
  refine bodyPost_ret (results_int rfl rfl (HR.out.two _ _)) rfl ?_
  have oo := Only.two (w.heap.size + 2) w1 (.bool s1) (.slice P1 q1 e1)
  exact ⟨_, rfl, (O1.out.only oo (by omega)).weaken (by omega), hL.only oo (by omega)⟩
end Go.Proofs.YtfokplidiboabaaGreat


set_option linter.unusedVariables false
set_option linter.unusedSimpArgs false
set_option maxRecDepth 100000
namespace Go.Proofs.YtfokplidiboabaaGreat
open Go.RowKit Go.Shelf
attribute [local go_sem ↓] Go.wp_at_zero Go.wp_at_succ

set_option maxHeartbeats 4000000 in
theorem qsub_calls (w : World) (va vb : Value) (a b : Rat) (k m : Nat) (ha : RawR w va a k) (hb : RawR w vb b m) (hkm : k + m ≤ 80000000) :
    Calls Tryz.prog 75 #[va, vb] w (Ret w fun w' v => OwnR w' w.heap.size v (a - b)) := by
  obtain ⟨q, hq⟩ : ∃ q, q = a - b := ⟨_, rfl⟩
  rw [← hq]
  have hq2 := (ratOf_sub a b).trans hq.symm
  have HQ := hide hq2
  clear hq hq2
  have SA := ha.sized; have SB := hb.sized
  have HA := hide ha; have HB := hide hb
  obtain ⟨sa, A1, n1, c1, sa', A1', n1', c1', rfl⟩ := ha.open_
  obtain ⟨sb, A2, n2, c2, sb', A2', n2', c2', rfl⟩ := hb.open_
  obtain ⟨W0, hW0⟩ : ∃ W0, W0 = (((w.alloc (Obj.cells #[Value.bool sa, Value.slice A1 n1 c1, Value.bool sa', Value.slice A1' n1' c1'] 36)).alloc (Obj.cells #[Value.bool sb, Value.slice A2 n2 c2, Value.bool sb', Value.slice A2' n2' c2'] 36)).alloc (Obj.cells #[Value.bool false, Value.slice none 0 0, Value.bool false, Value.slice none 0 0] 36)) := ⟨_, rfl⟩
  obtain ⟨hb0, r1, r2, r3, hsz⟩ := boxes3 w [.bool sa, .slice A1 n1 c1, .bool sa', .slice A1' n1' c1'] [.bool sb, .slice A2 n2 c2, .bool sb', .slice A2' n2' c2'] [.bool false, .slice none 0 0, .bool false, .slice none 0 0] 36 36 36 hW0
  have R3 := hide r3; clear r3
  have B0 := hide hb0; have HW0 := hide hW0
  clear ha hb r1 r2 hb0 hW0
  go_enter Tryz.func75, Tryz.ntmps75
  go_wp2_with fail
  rw [← HW0.out]
  refine (cross_calls _ _ _ a b k m (HA.out.later B0.out) (HB.out.later B0.out) (by omega)).mono ?_
  rintro e w1 ⟨v1, v2, v3, rfl, ⟨o1, o2, o3⟩, b1⟩
  obtain ⟨s1, P1, q1, e1, rfl, o1⟩ := o1.open_
  obtain ⟨s2, P2, q2, e2, rfl, o2⟩ := o2.open_
  obtain ⟨s3, P3, q3, e3, rfl, o3⟩ := o3.open_
  have hs1 := b1.size
  obtain ⟨V1, hV1⟩ : ∃ V1, V1 = (((w1.alloc (Obj.cells #[Value.bool s1, Value.slice P1 q1 e1] 34)).alloc (Obj.cells #[Value.bool s2, Value.slice P2 q2 e2] 34)).alloc (Obj.cells #[Value.bool s3, Value.slice P3 q3 e3] 34)) := ⟨_, rfl⟩
  obtain ⟨c1', x1, x2, x3, hsV⟩ := boxes3 w1 [.bool s1, .slice P1 q1 e1] [.bool s2, .slice P2 q2 e2] [.bool s3, .slice P3 q3 e3] 34 34 34 hV1
  have HV1 := hide hV1
  have C1 := hide c1'
  clear hV1
  have Z1 := limbs_mulZ SA.1 (limbs_castZ SB.2)
  have Z2 : (limbs (b.num * a.den).natAbs).length ≤ k + 1 + (m + 1) := by rw [Nat.add_comm (k+1)]; exact limbs_mulZ SB.1 (limbs_castZ SA.2)
  have Z3 := limbs_mulZ (limbs_castZ SA.2) (limbs_castZ SB.2)
  have Z4 : (limbs (a.num * b.den - b.num * a.den).natAbs).length ≤ k + 1 + (m + 1) + 1 := limbs_subZ Z1 Z2
  obtain ⟨y1, hy1⟩ : ∃ x, x = a.num * b.den := ⟨_, rfl⟩
  obtain ⟨y2, hy2⟩ : ∃ x, x = b.num * a.den := ⟨_, rfl⟩
  obtain ⟨y3, hy3⟩ : ∃ x, x = (a.den : Int) * b.den := ⟨_, rfl⟩
  have hy30 : y3 ≠ 0 := by rw [hy3]; exact den_mul_ne a b
  have hy31 : 0 < y3 := by rw [hy3]; have := a.den_pos; have := b.den_pos; exact Int.mul_pos (by omega) (by omega)
  rw [← hy1] at o1 Z1 Z4; rw [← hy2] at o2 Z2 Z4; rw [← hy3] at o3 Z3
  have hqq : q = ratOf (y1 - y2) y3 := by rw [ratOf_pos hy31, hy1, hy2, hy3]; exact HQ.out.symm
  have D0 : Hid (Later V1 V1.drew) := hide (Later.refl V1).drew
  have O1 := hide (((o1.raw Z1).later c1').later D0.out); have O2 := hide (((o2.raw Z2).later c1').later D0.out); have O3 := hide (((o3.raw (k := k+1+(m+1)+1) (by omega)).later c1').later D0.out)
  have HQQ := hide hqq; have HZ4 := hide Z4
  have LV := hide (((B0.out.trans b1).trans c1').trans D0.out)
  have R3 := hide (R3.out.later ((b1.trans c1').trans D0.out))
  have x1 := x1.drew; have x2 := x2.drew; have x3 := x3.drew
  have hszd : V1.drew.heap.size = w1.heap.size + 3 := hsV
  have HT1 : Hid (∀ w', Later V1.drew w' → w'.cell? ⟨w1.heap.size, 0, none⟩ = some (.bool s1) ∧ w'.cell? ⟨w1.heap.size, 1, none⟩ = some (.slice P1 q1 e1) ∧ w'.cell? ⟨w1.heap.size + 1, 0, none⟩ = some (.bool s2) ∧ w'.cell? ⟨w1.heap.size + 1, 1, none⟩ = some (.slice P2 q2 e2) ∧ w'.cell? ⟨w1.heap.size + 2, 0, none⟩ = some (.bool s3) ∧ w'.cell? ⟨w1.heap.size + 2, 1, none⟩ = some (.slice P3 q3 e3)) :=
    hide fun w' hb => ⟨(x1.later hb).cell rfl, (x1.later hb).cell rfl, (x2.later hb).cell rfl, (x2.later hb).cell rfl, (x3.later hb).cell rfl, (x3.later hb).cell rfl⟩
  have HT2 : Hid (∀ w' a_ b_ c_ d_, Later V1.drew w' → ((((w'.setCell ⟨w.heap.size + 2, 0, none⟩ a_).setCell ⟨w.heap.size + 2, 1, none⟩ b_).setCell ⟨w.heap.size + 2, 2, none⟩ c_).setCell ⟨w.heap.size + 2, 3, none⟩ d_).cell? ⟨w1.heap.size, 0, none⟩ = some (.bool s1) ∧ ((((w'.setCell ⟨w.heap.size + 2, 0, none⟩ a_).setCell ⟨w.heap.size + 2, 1, none⟩ b_).setCell ⟨w.heap.size + 2, 2, none⟩ c_).setCell ⟨w.heap.size + 2, 3, none⟩ d_).cell? ⟨w1.heap.size, 1, none⟩ = some (.slice P1 q1 e1) ∧ ((((w'.setCell ⟨w.heap.size + 2, 0, none⟩ a_).setCell ⟨w.heap.size + 2, 1, none⟩ b_).setCell ⟨w.heap.size + 2, 2, none⟩ c_).setCell ⟨w.heap.size + 2, 3, none⟩ d_).cell? ⟨w1.heap.size + 1, 0, none⟩ = some (.bool s2) ∧ ((((w'.setCell ⟨w.heap.size + 2, 0, none⟩ a_).setCell ⟨w.heap.size + 2, 1, none⟩ b_).setCell ⟨w.heap.size + 2, 2, none⟩ c_).setCell ⟨w.heap.size + 2, 3, none⟩ d_).cell? ⟨w1.heap.size + 1, 1, none⟩ = some (.slice P2 q2 e2) ∧ ((((w'.setCell ⟨w.heap.size + 2, 0, none⟩ a_).setCell ⟨w.heap.size + 2, 1, none⟩ b_).setCell ⟨w.heap.size + 2, 2, none⟩ c_).setCell ⟨w.heap.size + 2, 3, none⟩ d_).cell? ⟨w1.heap.size + 2, 0, none⟩ = some (.bool s3) ∧ ((((w'.setCell ⟨w.heap.size + 2, 0, none⟩ a_).setCell ⟨w.heap.size + 2, 1, none⟩ b_).setCell ⟨w.heap.size + 2, 2, none⟩ c_).setCell ⟨w.heap.size + 2, 3, none⟩ d_).cell? ⟨w1.heap.size + 2, 1, none⟩ = some (.slice P3 q3 e3)) :=
    hide fun w' a_ b_ c_ d_ hb => ⟨((x1.later hb).far4 (by omega) a_ b_ c_ d_).cell rfl, ((x1.later hb).far4 (by omega) a_ b_ c_ d_).cell rfl, ((x2.later hb).far4 (by omega) a_ b_ c_ d_).cell rfl, ((x2.later hb).far4 (by omega) a_ b_ c_ d_).cell rfl, ((x3.later hb).far4 (by omega) a_ b_ c_ d_).cell rfl, ((x3.later hb).far4 (by omega) a_ b_ c_ d_).cell rfl⟩

  clear o1 o2 o3 x1 x2 x3 c1' SA SB Z1 Z2 Z3 Z4 hy1 hy2 hy3 hy30 hy31 hqq HQ
  go_upto_region 2 with fail
  rw [← HV1.out]
  go_region_held3 (fun w' => w'.cell? ⟨w1.heap.size, 0, none⟩ = some (.bool s1) ∧ w'.cell? ⟨w1.heap.size, 1, none⟩ = some (.slice P1 q1 e1) ∧ w'.cell? ⟨w1.heap.size + 1, 0, none⟩ = some (.bool s2) ∧ w'.cell? ⟨w1.heap.size + 1, 1, none⟩ = some (.slice P2 q2 e2) ∧ w'.cell? ⟨w1.heap.size + 2, 0, none⟩ = some (.bool s3) ∧ w'.cell? ⟨w1.heap.size + 2, 1, none⟩ = some (.slice P3 q3 e3))
    (first | exact HT1.out _ (Later.refl _) | exact HT1.out _ b4 | exact HT1.out _ (b4.trans b5) | exact HT2.out _ _ _ _ _ (b4.trans b5))
    (first
      | ((with_reducible refine (zsub_calls _ _ _ y1 y2 (k+1+(m+1)) (k+1+(m+1)) O1.out O2.out (by omega) (by omega)).mono ?_); rintro e w4 ⟨v4, rfl, o4, b4⟩; obtain ⟨s4, P4, q4, e4, rfl, o4⟩ := o4.open_; have O4 := hide o4; clear o4)
      | ((with_reducible refine (qplain_calls _ _ q (k+1+(m+1)+1) (rawR_mk (O4.out.raw HZ4.out) (O3.out.later b4) HQQ.out) (by omega)).mono ?_); rintro e w5 ⟨v5, rfl, o5, b5⟩; obtain ⟨s5, P5, q5, e5, P5', q5', e5', rfl, o5⟩ := o5.open_; have O5 := hide o5; clear o5; obtain ⟨f1, f2, f3, f4, f5, f6, f7, f8⟩ := row_cells4 (R3.out.later (b4.trans b5))))
  have hL := LV.out.trans (b4.trans b5)
  have HR := hide (R3.out.later (b4.trans b5))
  have hs4 := b4.size; have hs5 := b5.size
  clear f1 f2 f3 f4 f5 f6 f7 f8
  go_wp2_with fail
  refine bodyPost_ret (results_rat rfl rfl (HR.out.four _ _ _ _)) rfl ?_
  have oo := Only.four (w.heap.size + 2) w5 (.bool s5) (.slice P5 q5 e5) (.bool false) (.slice P5' q5' e5')
  exact ⟨_, rfl, (O5.out.only oo (by omega)).weaken (by omega), hL.only oo (by omega)⟩
end Go.Proofs.YtfokplidiboabaaGreat


set_option linter.unusedVariables false
set_option linter.unusedSimpArgs false
set_option maxRecDepth 100000
namespace Go.Proofs.YtfokplidiboabaaGreat
open Go.RowKit Go.Shelf
attribute [local go_sem ↓] Go.wp_at_zero Go.wp_at_succ

theorem sized_axpy {a b : List Rat} {q : Rat} {k m p : Nat} (ha : ∀ x ∈ a, Sized x k) (hb : ∀ x ∈ b, Sized x m) (hq : Sized q p) : ∀ x ∈ axpyL a b q, Sized x (k + (p + m) + 1) := by
  unfold axpyL
  induction a generalizing b with
  | nil => simp
  | cons x a ih => cases b with
    | nil => simp
    | cons y b =>
      intro z hz
      rw [List.zipWith_cons_cons] at hz
      rcases List.mem_cons.1 hz with rfl | hz
      · exact (ha x (List.mem_cons_self ..)).add (hq.mul (hb y (List.mem_cons_self ..)))
      · exact ih (fun q h => ha q (List.mem_cons_of_mem _ h)) (fun q h => hb q (List.mem_cons_of_mem _ h)) z hz
end Go.Proofs.YtfokplidiboabaaGreat


set_option linter.unusedVariables false
set_option linter.unusedSimpArgs false
namespace Go.Proofs.YtfokplidiboabaaGreat

theorem foldl_add (l : List Rat) (x : Rat) : l.foldl (· + ·) x = x + l.foldl (· + ·) 0 := by
  induction l generalizing x with
  | nil => simp only [List.foldl_nil]; grind
  | cons y l ih => simp only [List.foldl_cons]; rw [ih (x + y), ih (0 + y)]; grind
theorem sumR_cons (x : Rat) (l : List Rat) : sumR (x :: l) = x + sumR l := by
  unfold sumR; rw [List.foldl_cons, foldl_add]; grind
theorem dotL_comm (a b : List Rat) : dotL a b = dotL b a := by
  unfold dotL
  rw [List.zipWith_comm]
  congr 2
  funext x y; grind
end Go.Proofs.YtfokplidiboabaaGreat


set_option linter.unusedVariables false
set_option linter.unusedSimpArgs false
set_option maxRecDepth 100000
namespace Go.Proofs.YtfokplidiboabaaGreat

theorem dotL_nil (z : List Rat) : dotL [] z = 0 := by unfold dotL; rw [List.zipWith_nil_left]; rfl
theorem dotL_cons (x y : Rat) (a b : List Rat) : dotL (x :: a) (y :: b) = x * y + dotL a b := by
  unfold dotL; rw [List.zipWith_cons_cons, sumR_cons]
theorem dotL_add : ∀ (a b z : List Rat) (q : Rat), a.length = b.length → dotL (axpyL a b q) z = dotL a z + q * dotL b z := by
  intro a
  induction a with
  | nil =>
    intro b z q h
    cases b with
    | nil => rw [show axpyL [] [] q = [] from rfl, dotL_nil]; grind
    | cons y b => simp at h
  | cons x a ih =>
    intro b z q h
    cases b with
    | nil => simp at h
    | cons y b =>
      have hl : a.length = b.length := by simpa using h
      cases z with
      | nil => rw [dotL_comm _ [], dotL_comm _ [], dotL_comm _ [], dotL_nil, dotL_nil, dotL_nil]; grind
      | cons z zs => rw [axpy_cons, dotL_cons, dotL_cons, dotL_cons, ih b zs q hl]; grind
theorem dotL_zeros (n : Nat) (z : List Rat) : dotL (List.replicate n 0) z = 0 := by
  induction n generalizing z with
  | zero => exact dotL_nil z
  | succ n ih =>
    cases z with
    | nil => rw [dotL_comm, dotL_nil]
    | cons x z => rw [List.replicate_succ, dotL_cons, ih]; grind
section
variable {A : List (List Rat)} {B C y u z r : List Rat} {ok : Bool}
end
end Go.Proofs.YtfokplidiboabaaGreat


set_option linter.unusedVariables false
set_option linter.unusedSimpArgs false
set_option maxRecDepth 100000
namespace Go.Proofs.YtfokplidiboabaaGreat

theorem endsFrom_mem (os : List Bool) (j : Nat) : ∀ i ∈ endsFrom os j, j ≤ i ∧ i < j + os.length ∧ os.getD (i - j) true = false := by
  induction os generalizing j with
  | nil => intro i hi; cases hi
  | cons o os ih =>
    intro i hi
    unfold endsFrom at hi
    have key : i ∈ endsFrom os (j+1) → j ≤ i ∧ i < j + (o :: os).length ∧ (o :: os).getD (i - j) true = false := fun hi => by
      have := ih (j+1) i hi
      rw [List.length_cons]
      refine ⟨by omega, by omega, ?_⟩
      rw [show i - j = (i - (j+1)) + 1 by omega]
      exact this.2.2
    split at hi
    · exact key hi
    · rename_i ho
      rcases List.mem_cons.1 hi with rfl | hi
      · rw [List.length_cons, Nat.sub_self]; exact ⟨Nat.le_refl _, by omega, by simpa using ho⟩
      · exact key hi
theorem endsFrom_has (os : List Bool) (j i : Nat) (h1 : j ≤ i) (h2 : os.getD (i - j) true = false) : i ∈ endsFrom os j := by
  induction os generalizing j with
  | nil => simp at h2
  | cons o os ih =>
    unfold endsFrom
    by_cases e : i = j
    · subst e
      rw [Nat.sub_self] at h2
      have : o = false := by simpa using h2
      subst this
      simp
    · have h3 : i ∈ endsFrom os (j+1) := ih (j+1) (by omega) (by rw [show i - j = (i - (j+1)) + 1 by omega] at h2; exact h2)
      split
      · exact h3
      · exact List.mem_cons_of_mem _ h3
end Go.Proofs.YtfokplidiboabaaGreat


set_option linter.unusedVariables false
set_option linter.unusedSimpArgs false
set_option maxRecDepth 100000
namespace Go.Proofs.YtfokplidiboabaaGreat

theorem dotL_append : ∀ (a b c d : List Rat), a.length = b.length → dotL (a ++ c) (b ++ d) = dotL a b + dotL c d
  | [], [], c, d, _ => by rw [List.nil_append, List.nil_append, dotL_nil]; grind
  | x :: a, y :: b, c, d, h => by
    rw [List.cons_append, List.cons_append, dotL_cons, dotL_cons, dotL_append a b c d (by simpa using h)]; grind
theorem dotL_unit : ∀ (n j : Nat) (u : List Rat), u.length = n → dotL (unitL n j) u = u.getD j 0
  | 0, j, [], _ => by
    have : unitL 0 j = [] := by unfold unitL; rw [List.replicate_zero, List.set_nil]
    rw [this, dotL_nil]; simp
  | n+1, 0, x :: u, h => by
    show dotL (1 :: List.replicate n 0) (x :: u) = x
    rw [dotL_cons, dotL_zeros]; grind
  | n+1, j+1, x :: u, h => by
    show dotL (0 :: unitL n j) (x :: u) = u.getD j 0
    rw [dotL_cons, dotL_unit n j u (by simpa using h)]; grind
theorem dotL_less (c x l : List Rat) (h : x.length = l.length) : dotL c (axpyL x l (-1)) = dotL c x - dotL c l := by
  rw [dotL_comm, dotL_add x l c (-1) h, dotL_comm x, dotL_comm l]; grind
theorem dotL_flip (row : List Rat) (b : Rat) : ∀ (y : List Rat), dotL (flipR row b) y = sgq b * dotL row y := by
  induction row with
  | nil => intro y; show dotL [] y = _; rw [dotL_nil]; grind
  | cons a row ih =>
    intro y
    cases y with
    | nil => show dotL _ [] = _; rw [dotL_comm, dotL_nil, dotL_comm, dotL_nil]; grind
    | cons z y =>
      show dotL (a * sgq b :: flipR row b) (z :: y) = _
      rw [dotL_cons, dotL_cons, ih y]; grind
def slackR (x : List Rat) : List PRow → List Rat
  | [] => []
  | r :: rs => (senX r.sense).map (fun s => s * (r.rhs - dotL r.coef x)) ++ slackR x rs
def slackE (P : PLp) (x : List Rat) (l : List Nat) : List Rat := l.map fun j => P.hi.getD j 0 - x.getD j 0
def slackL (P : PLp) (x : List Rat) : List Rat := axpyL x P.lo (-1) ++ (slackR x P.rows ++ slackE P x (endsL P))
theorem slackR_len (x : List Rat) (rs : List PRow) (i : Nat) : (slackR x rs).length = (extraR rs i).length := by
  induction rs generalizing i with
  | nil => rfl
  | cons r rs ih => unfold slackR extraR; simp [ih (i+1)]
theorem slackR_append (x : List Rat) (a b : List PRow) : slackR x (a ++ b) = slackR x a ++ slackR x b := by
  induction a with
  | nil => rfl
  | cons r a ih =>
    show (senX r.sense).map _ ++ slackR x (a ++ b) = ((senX r.sense).map _ ++ slackR x a) ++ slackR x b
    rw [ih, List.append_assoc]
theorem slackL_len {P : PLp} {x : List Rat} (h : LpP P) (hx : x.length = P.cost.length) : (slackL P x).length = P.cost.length + (extraL P).length := by
  unfold slackL extraL slackE axpyL
  rw [List.length_append, List.length_append, List.length_append, List.length_zipWith, List.length_map, slackR_len x P.rows 0, extraE_len P.opn P.rows.length 0, hx, h.lo, Nat.min_self]
  rfl
/-- the part of a row in the columns of rows -/
def exPart (ex : List (Nat × Rat)) (i : Nat) : List Rat := ex.map fun p => if i = p.1 then p.2 else 0
theorem exPart_append (a b : List (Nat × Rat)) (i : Nat) : exPart (a ++ b) i = exPart a i ++ exPart b i := by unfold exPart; exact List.map_append
def rowLeft (x : List Rat) (r : PRow) : Rat := if senX r.sense = [] then 0 else r.rhs - dotL r.coef x
theorem exR_low (x : List Rat) (rs : List PRow) (k i : Nat) (h : i < k) : dotL (exPart (extraR rs k) i) (slackR x rs) = 0 := by
  induction rs generalizing k with
  | nil => exact dotL_nil _
  | cons r rs ih =>
    unfold extraR slackR
    rw [exPart_append, dotL_append _ _ _ _ (by unfold exPart; simp), ih (k+1) (by omega)]
    rcases senX_cases r.sense with e | e | e <;> rw [e]
    · show dotL [if i = k then (1 : Rat) else 0] [1 * (r.rhs - dotL r.coef x)] + 0 = 0
      rw [if_neg (by omega), dotL_cons, dotL_nil]; grind
    · show dotL [if i = k then (-1 : Rat) else 0] [(-1) * (r.rhs - dotL r.coef x)] + 0 = 0
      rw [if_neg (by omega), dotL_cons, dotL_nil]; grind
    · show dotL [] [] + 0 = 0
      rw [dotL_nil]; grind
theorem exR_at (x : List Rat) (rs : List PRow) (k i : Nat) (h : k ≤ i) : dotL (exPart (extraR rs k) i) (slackR x rs) = match rs[i - k]? with | some r => rowLeft x r | none => 0 := by
  induction rs generalizing k with
  | nil => exact dotL_nil _
  | cons r rs ih =>
    unfold extraR slackR
    rw [exPart_append, dotL_append _ _ _ _ (by unfold exPart; simp)]
    by_cases e : i = k
    · subst e
      rw [exR_low x rs (i+1) i (by omega), Nat.sub_self]
      show _ = rowLeft x r
      unfold rowLeft
      rcases senX_cases r.sense with e | e | e <;> rw [e]
      · show dotL [if i = i then (1 : Rat) else 0] [1 * (r.rhs - dotL r.coef x)] + 0 = _
        rw [if_pos rfl, if_neg (by simp), dotL_cons, dotL_nil]; grind
      · show dotL [if i = i then (-1 : Rat) else 0] [(-1) * (r.rhs - dotL r.coef x)] + 0 = _
        rw [if_pos rfl, if_neg (by simp), dotL_cons, dotL_nil]; grind
      · show dotL [] [] + 0 = _
        rw [dotL_nil, if_pos rfl]; grind
    · rw [ih (k+1) (by omega), show i - k = (i - (k+1)) + 1 by omega, List.getElem?_cons_succ]
      have : dotL (exPart ((senX r.sense).map fun s => (k, s)) i) ((senX r.sense).map fun s => s * (r.rhs - dotL r.coef x)) = 0 := by
        rcases senX_cases r.sense with e' | e' | e' <;> rw [e']
        · show dotL [if i = k then (1 : Rat) else 0] [1 * (r.rhs - dotL r.coef x)] = 0
          rw [if_neg e, dotL_cons, dotL_nil]; grind
        · show dotL [if i = k then (-1 : Rat) else 0] [(-1) * (r.rhs - dotL r.coef x)] = 0
          rw [if_neg e, dotL_cons, dotL_nil]; grind
        · exact dotL_nil _
      rw [this]; grind
theorem exE_low (os : List Bool) (k i : Nat) (h : i < k) (v : List Rat) (hv : v.length = (extraE os k).length) : dotL (exPart (extraE os k) i) v = 0 := by
  induction os generalizing k v with
  | nil => exact dotL_nil _
  | cons o os ih =>
    unfold extraE at hv ⊢
    split at hv
    · rename_i ho; rw [if_pos ho]; exact ih k h v hv
    · rename_i ho; rw [if_neg ho]
      match v, hv with
      | z :: v, hv =>
        show dotL ((if i = k then (1 : Rat) else 0) :: exPart (extraE os (k+1)) i) (z :: v) = 0
        rw [if_neg (by omega), dotL_cons, ih (k+1) (by omega) v (by simpa using hv)]; grind
theorem exE_at (os : List Bool) (k i : Nat) (h : k ≤ i) (v : List Rat) (hv : v.length = (extraE os k).length) : dotL (exPart (extraE os k) i) v = v.getD (i - k) 0 := by
  induction os generalizing k v with
  | nil =>
    have : v = [] := List.eq_nil_of_length_eq_zero hv
    subst this
    show dotL [] [] = _; rw [dotL_nil]; simp
  | cons o os ih =>
    unfold extraE at hv ⊢
    split at hv
    · rename_i ho; rw [if_pos ho]; exact ih k h v hv
    · rename_i ho; rw [if_neg ho]
      match v, hv with
      | z :: v, hv =>
        show dotL ((if i = k then (1 : Rat) else 0) :: exPart (extraE os (k+1)) i) (z :: v) = _
        rw [dotL_cons]
        by_cases e : i = k
        · subst e
          rw [if_pos rfl, exE_low os (i+1) i (by omega) v (by simpa using hv), Nat.sub_self]
          show _ = z; grind
        · rw [if_neg e, ih (k+1) (by omega) v (by simpa using hv), show i - k = (i - (k+1)) + 1 by omega]
          show _ = v.getD _ 0; grind
theorem dot_wide {P : PLp} {x : List Rat} (h : LpP P) (hx : x.length = P.cost.length) (i : Nat) (hi : i < (wideA P).length) : dotL ((wideA P).getD i []) (slackL P x) = (baseB P).getD i 0 - (match P.rows[i]? with | some r => (if senX r.sense = [] then r.rhs - dotL r.coef x else 0) | none => 0) := by
  have hx2 : x.length = P.lo.length := by rw [hx, h.lo]
  have hxl : (axpyL x P.lo (-1)).length = P.cost.length := by unfold axpyL; rw [List.length_zipWith, hx, h.lo, Nat.min_self]
  have hL := hi; rw [wideA_len] at hL
  have e1 : (wideA P).getD i [] = exRow (extraL P) i ((baseA P).getD i []) := by
    unfold wideA; rw [List.getD_eq_getElem?_getD, List.getElem?_map, List.getElem?_range (by rw [baseA_len]; exact hL)]; rfl
  rw [e1]
  have hsl := slackR_len x P.rows 0
  have hse : (slackE P x (endsL P)).length = (extraE P.opn P.rows.length).length := by unfold slackE; rw [List.length_map, extraE_len P.opn P.rows.length 0]; rfl
  have key : ∀ row : List Rat, row.length = P.cost.length → dotL (exRow (extraL P) i row) (slackL P x) = (dotL row x - dotL row P.lo) + (dotL (exPart (extraR P.rows 0) i) (slackR x P.rows) + dotL (exPart (extraE P.opn P.rows.length) i) (slackE P x (endsL P))) := by
    intro row hr
    show dotL (row ++ exPart (extraR P.rows 0 ++ extraE P.opn P.rows.length) i) (axpyL x P.lo (-1) ++ (slackR x P.rows ++ slackE P x (endsL P))) = _
    rw [dotL_append _ _ _ _ (by rw [hr, hxl]), exPart_append, dotL_append _ _ _ _ (by unfold exPart; rw [List.length_map, hsl]), dotL_less row x P.lo hx2]
  by_cases g : i < P.rows.length
  · have e2 : P.rows[i]? = some P.rows[i] := List.getElem?_eq_getElem g
    obtain ⟨r, hr⟩ : ∃ r, r = P.rows[i] := ⟨_, rfl⟩
    rw [← hr] at e2
    have hrm : r ∈ P.rows := List.mem_of_getElem? e2
    have e3 : (baseA P).getD i [] = r.coef := by
      unfold baseA; rw [List.getD_eq_getElem?_getD, List.getElem?_append_left (by rw [List.length_map]; exact g), List.getElem?_map, e2]; rfl
    have e4 : (baseB P).getD i 0 = r.rhs - dotL r.coef P.lo := by
      unfold baseB; rw [List.getD_eq_getElem?_getD, List.getElem?_append_left (by rw [List.length_map]; exact g), List.getElem?_map, e2]; rfl
    rw [e3, e4, key r.coef (h.rows r hrm).1, exR_at x P.rows 0 i (Nat.zero_le _), Nat.sub_zero, e2, exE_low _ _ _ g _ hse]
    show _ + (rowLeft x r + 0) = _ - (if senX r.sense = [] then r.rhs - dotL r.coef x else 0)
    unfold rowLeft
    by_cases e : senX r.sense = []
    · rw [if_pos e, if_pos e]; grind
    · rw [if_neg e, if_neg e]; grind
  · have e2 : P.rows[i]? = none := List.getElem?_eq_none (by omega)
    obtain ⟨j, hj⟩ : ∃ j, (endsL P)[i - P.rows.length]? = some j := ⟨_, List.getElem?_eq_getElem (by omega)⟩
    have hjm := endsFrom_mem P.opn 0 j (List.mem_of_getElem? hj)
    have hjn : j < P.cost.length := by have := h.opn; omega
    have e3 : (baseA P).getD i [] = unitL P.cost.length j := by
      unfold baseA; rw [List.getD_eq_getElem?_getD, List.getElem?_append_right (by rw [List.length_map]; omega), List.length_map, List.getElem?_map, hj]; rfl
    have e4 : (baseB P).getD i 0 = P.hi.getD j 0 - P.lo.getD j 0 := by
      unfold baseB; rw [List.getD_eq_getElem?_getD, List.getElem?_append_right (by rw [List.length_map]; omega), List.length_map, List.getElem?_map, hj]; rfl
    have e5 : (slackE P x (endsL P)).getD (i - P.rows.length) 0 = P.hi.getD j 0 - x.getD j 0 := by
      unfold slackE; rw [List.getD_eq_getElem?_getD, List.getElem?_map, hj]; rfl
    rw [e3, e4, key _ (by unfold unitL; simp), exR_at x P.rows 0 i (Nat.zero_le _), Nat.sub_zero, e2, exE_at _ _ _ (by omega) _ hse, e5, dotL_unit _ _ _ hx, dotL_unit _ _ _ h.lo]
    dsimp only
    grind
theorem sgq_ne (b : Rat) : sgq b ≠ 0 := by unfold sgq; split <;> grind
theorem eq_row {P : PLp} {x : List Rat} (h : LpP P) (hx : x.length = P.cost.length) (i : Nat) (hi : i < (stdA P).length) : dotL ((stdA P).getD i []) (slackL P x) = (stdB P).getD i 0 ↔ ∀ r, P.rows[i]? = some r → senX r.sense = [] → r.rhs = dotL r.coef x := by
  have hi' : i < (wideA P).length := by rw [wideA_len, ← stdA_len]; exact hi
  have hs := sgq_ne ((baseB P).getD i 0)
  rw [(std_at i hi').1, (std_at i hi').2, dotL_flip, dot_wide h hx i hi']
  generalize (baseB P).getD i 0 = b at *
  generalize sgq b = s at *
  cases hr : P.rows[i]? with
  | none => constructor
            · intro _ r e; cases e
            · intro _; dsimp only; grind
  | some r =>
    dsimp only
    by_cases e : senX r.sense = []
    · rw [if_pos e]
      constructor
      · intro h1 r' e' _; injection e' with e'; subst e'
        have : s * (r.rhs - dotL r.coef x) = 0 := by grind
        rcases Rat.mul_eq_zero.1 this with h2 | h2
        · exact absurd h2 hs
        · grind
      · intro h1; have := h1 r rfl e; rw [this]; grind
    · rw [if_neg e]
      constructor
      · intro _ r' e' e2; injection e' with e'; subst e'; exact absurd e2 e
      · intro _; grind
theorem keeps_iff {P : PLp} {x : List Rat} (h : LpP P) (hx : x.length = P.cost.length) :
    ((∀ v ∈ slackL P x, 0 ≤ v) ∧ ∀ i, i < (stdA P).length → dotL ((stdA P).getD i []) (slackL P x) = (stdB P).getD i 0) ↔ fulfL P x = true := by
  rw [fulfL_iff]
  have hsn : ∀ r : PRow, r ∈ P.rows → r.sense = 0 ∨ r.sense = 1 ∨ r.sense = 2 := fun r hr => by have := (h.rows r hr).2.1; omega
  have hR : (∀ v ∈ slackR x P.rows, 0 ≤ v) ↔ ∀ r ∈ P.rows, ∀ s ∈ senX r.sense, 0 ≤ s * (r.rhs - dotL r.coef x) := by
    generalize P.rows = rs
    induction rs with
    | nil => simp [slackR]
    | cons r rs ih =>
      unfold slackR
      constructor
      · intro h1 r' hr' s hs
        rcases List.mem_cons.1 hr' with rfl | hr'
        · exact h1 _ (List.mem_append_left _ (List.mem_map.2 ⟨s, hs, rfl⟩))
        · exact (ih.1 fun v hv => h1 v (List.mem_append_right _ hv)) r' hr' s hs
      · intro h1 v hv
        rcases List.mem_append.1 hv with hv | hv
        · obtain ⟨s, hs, rfl⟩ := List.mem_map.1 hv
          exact h1 r (List.mem_cons_self ..) s hs
        · exact ih.2 (fun r' hr' => h1 r' (List.mem_cons_of_mem _ hr')) v hv
  have hX : (∀ v ∈ axpyL x P.lo (-1), 0 ≤ v) ↔ ∀ j, j < P.cost.length → P.lo.getD j 0 ≤ x.getD j 0 := by
    constructor
    · intro h1 j hj
      have e1 : x[j]? = some (x.getD j 0) := by rw [List.getD_eq_getElem?_getD, List.getElem?_eq_getElem (by omega)]; rfl
      have e2 : P.lo[j]? = some (P.lo.getD j 0) := by rw [List.getD_eq_getElem?_getD, List.getElem?_eq_getElem (by have := h.lo; omega)]; rfl
      have := h1 (x.getD j 0 + (-1) * P.lo.getD j 0) (List.mem_of_getElem? (i := j) (by unfold axpyL; rw [List.getElem?_zipWith, e1, e2]))
      grind
    · intro h1 v hv
      obtain ⟨j, hj⟩ := List.mem_iff_getElem?.1 hv
      unfold axpyL at hj
      rw [List.getElem?_zipWith] at hj
      cases e1 : x[j]? with
      | none => rw [e1] at hj; cases hj
      | some a =>
        cases e2 : P.lo[j]? with
        | none => rw [e1, e2] at hj; cases hj
        | some b =>
          rw [e1, e2] at hj; injection hj with hj
          have hlt := (List.getElem?_eq_some_iff.1 e1).1
          have := h1 j (by omega)
          rw [List.getD_eq_getElem?_getD, e2, List.getD_eq_getElem?_getD, e1] at this
          simp at this
          rw [← hj]; grind
  have hE : (∀ v ∈ slackE P x (endsL P), 0 ≤ v) ↔ ∀ j, j < P.cost.length → P.opn.getD j true = false → x.getD j 0 ≤ P.hi.getD j 0 := by
    constructor
    · intro h1 j hj ho
      have := h1 (P.hi.getD j 0 - x.getD j 0) (List.mem_map.2 ⟨j, endsFrom_has P.opn 0 j (Nat.zero_le _) (by rw [Nat.sub_zero]; exact ho), rfl⟩)
      grind
    · intro h1 v hv
      obtain ⟨j, hj, rfl⟩ := List.mem_map.1 hv
      have hm := endsFrom_mem P.opn 0 j hj
      have := h1 j (by have := h.opn; omega) (by simpa using hm.2.2)
      grind
  have hA : (∀ v ∈ slackL P x, 0 ≤ v) ↔ (∀ v ∈ axpyL x P.lo (-1), 0 ≤ v) ∧ (∀ v ∈ slackR x P.rows, 0 ≤ v) ∧ (∀ v ∈ slackE P x (endsL P), 0 ≤ v) := by
    unfold slackL
    constructor
    · intro h1; exact ⟨fun v hv => h1 v (by simp [hv]), fun v hv => h1 v (by simp [hv]), fun v hv => h1 v (by simp [hv])⟩
    · rintro ⟨h1, h2, h3⟩ v hv
      rcases List.mem_append.1 hv with hv | hv
      · exact h1 v hv
      · rcases List.mem_append.1 hv with hv | hv
        · exact h2 v hv
        · exact h3 v hv
  have hQ : (∀ i, i < (stdA P).length → dotL ((stdA P).getD i []) (slackL P x) = (stdB P).getD i 0) ↔ ∀ r ∈ P.rows, r.sense = 1 → r.rhs = dotL r.coef x := by
    constructor
    · intro h1 r hr hs
      obtain ⟨i, hi⟩ := List.mem_iff_getElem?.1 hr
      have hlt := (List.getElem?_eq_some_iff.1 hi).1
      have hl : i < (stdA P).length := by rw [stdA_len]; omega
      exact (eq_row h hx i hl).1 (h1 i hl) r hi (by unfold senX; rw [hs]; rfl)
    · intro h1 i hi
      refine (eq_row h hx i hi).2 fun r hr hs => ?_
      have hm := List.mem_of_getElem? hr
      refine h1 r hm ?_
      rcases hsn r hm with e | e | e
      · rw [e] at hs; cases hs
      · exact e
      · rw [e] at hs; cases hs
  rw [hA, hR, hX, hE, hQ]
  constructor
  · rintro ⟨⟨h1, h2, h3⟩, h4⟩
    refine ⟨h, hx, fun j hj => ⟨h1 j hj, h3 j hj⟩, fun r hr => ?_⟩
    rcases hsn r hr with e | e | e
    · have := h2 r hr 1 (by rw [e]; simp [senX])
      exact ⟨.inr (by grind), .inl e⟩
    · have := h4 r hr e
      exact ⟨.inr (by grind), .inr (by grind)⟩
    · have := h2 r hr (-1) (by rw [e]; simp [senX])
      exact ⟨.inl e, .inr (by grind)⟩
  · rintro ⟨-, -, h3, h4⟩
    refine ⟨⟨fun j hj => (h3 j hj).1, fun r hr s hs => ?_, fun j hj => (h3 j hj).2⟩, fun r hr e => ?_⟩
    · have := h4 r hr
      rcases hsn r hr with e | e | e
      · rw [e] at hs; simp [senX] at hs; subst hs
        rcases this.1 with h5 | h5
        · omega
        · grind
      · rw [e] at hs; simp [senX] at hs
      · rw [e] at hs; simp [senX] at hs; subst hs
        rcases this.2 with h5 | h5
        · omega
        · grind
    · have := h4 r hr
      rcases this.1 with h5 | h5
      · omega
      · rcases this.2 with h6 | h6
        · omega
        · grind
theorem keeps_back {P : PLp} {x : List Rat} (h : LpP P) (hx : x.length = P.cost.length) : backL P (slackL P x) = x := by
  unfold backL slackL
  have hl : (axpyL x P.lo (-1)).length = P.lo.length := by unfold axpyL; rw [List.length_zipWith, hx, h.lo, Nat.min_self]
  rw [List.take_left' hl]
  have : ∀ a b : List Rat, a.length = b.length → axpyL b (axpyL a b (-1)) 1 = a := by
    intro a
    induction a with
    | nil => intro b hb; cases b with
      | nil => rfl
      | cons _ _ => cases hb
    | cons z a ih =>
      intro b hb
      cases b with
      | nil => cases hb
      | cons y b =>
        rw [axpy_cons, axpy_cons, ih b (by simpa using hb)]
        congr 1; grind
  exact this x P.lo (by rw [hx, h.lo])
theorem keeps_cost {P : PLp} {x : List Rat} (h : LpP P) (hx : x.length = P.cost.length) : dotL P.cost x = dotL (stdC P) (slackL P x) + restV P := by
  unfold stdC slackL restV
  rw [dotL_append _ _ _ _ (by unfold axpyL; rw [List.length_zipWith, hx, h.lo, Nat.min_self]), dotL_zeros, dotL_less _ _ _ (by rw [hx, h.lo])]; grind
end Go.Proofs.YtfokplidiboabaaGreat

/- Problems: slacks (the laws). -/
set_option linter.unusedVariables false
set_option linter.unusedSimpArgs false
set_option maxRecDepth 100000
namespace Go.Proofs.YtfokplidiboabaaGreat
open Go.RowKit Go.Shelf
attribute [local go_sem ↓] Go.wp_at_zero Go.wp_at_succ

theorem slackR_one (x : List Rat) (r : PRow) : slackR x [r] = (senX r.sense).map (fun s => s * (r.rhs - dotL r.coef x)) := by
  show List.map _ _ ++ [] = _; rw [List.append_nil]
theorem axpy_take_succ {a b : List Rat} {q y z : Rat} {j : Nat} (ha : a[j]? = some y) (hb : b[j]? = some z) : (axpyL a b q).take (j+1) = (axpyL a b q).take j ++ [y + q * z] := by
  rw [List.take_add_one]
  congr 1
  unfold axpyL
  rw [List.getElem?_zipWith, ha, hb]; rfl

set_option maxHeartbeats 16000000 in
theorem slacks_calls (w : World) (A1 A2 A3 A4 A5 : Option Addr) (n1 n2 n3 n4 n5 c1 c2 c3 c4 c5 : Nat)  (P : PLp) (h : LpIn w (.slice A1 n1 c1) (.slice A2 n2 c2) (.slice A3 n3 c3) (.slice A4 n4 c4) (.slice A5 n5 c5) 1 P) (hP : LpP P) (vx : Value) (x : List Rat) (hx : Rats (ERaw 1) w vx x) (hlen : x.length = P.cost.length) :
    Calls Tryz.prog 33 #[.agg #[.slice A1 n1 c1, .slice A2 n2 c2, .slice A3 n3 c3, .slice A4 n4 c4, .slice A5 n5 c5], vx] w (Ret w fun w' v => RowU w' w.heap.size v (slackL P x)) := by
  obtain ⟨Ax, nx, cx, rfl, hnx, -⟩ := hx.form
  have HP := hide hP; have HXC := hide hlen
  have HNX : Hid (nx = x.length ∧ nx ≤ 24) := hide ⟨hnx, by have := hP.n24; omega⟩
  have HXL : Hid (x.length = P.lo.length) := hide (by rw [hlen, hP.lo])
  have HNL : Hid (x.length = P.lo.length) := HXL
  have hx0 := hx; have h0 := h
  have L2 := hide h.rows.len_; have L3 := hide h.lo.len_; have L4 := hide h.hi.len_; have L5 := hide h.opn.len_
  clear hP hlen hnx h hx
  obtain ⟨W0, hW0⟩ : ∃ W0, W0 = (w.alloc (Obj.cells #[Value.slice A1 n1 c1, Value.slice A2 n2 c2, Value.slice A3 n3 c3, Value.slice A4 n4 c4, Value.slice A5 n5 c5] 26)) := ⟨_, rfl⟩
  obtain ⟨hb0, r0, hsz0⟩ := boxes1 w [.slice A1 n1 c1, .slice A2 n2 c2, .slice A3 n3 c3, .slice A4 n4 c4, .slice A5 n5 c5] 26 hW0
  have B0 := hide hb0; have HW0 := hide hW0; have HSZ0 := hide hsz0
  have R0 := hide r0
  clear hb0 hW0 hsz0 r0
  have HX := hide (hx0.later ERaw.later B0.out); have HI := hide (h0.later B0.out)
  have h24 : nx ≤ 24 := HNX.out.2
  have hn24 : n2 ≤ 24 := by have := L2.out; have := HP.out.rl; omega
  clear hx0 h0
  go_enter Tryz.func33, Tryz.ntmps33
  go_upto_region 1 with fail
  rw [← HW0.out]
  go_wp2_with fail
  go_loopw [5, 6] (fun yv i wr => ∃ j : Nat, j ≤ nx ∧ i = .int .i64 (j : Int) ∧ RowU wr W0.heap.size yv ((axpyL x P.lo (-1)).take j) ∧ Later W0 wr) (fun _ i _ => (nx - intOf i).toNat)
  case atStart => exact ⟨0, by omega, rfl, RowU.nil _ _, Later.refl _⟩
  case round =>
    obtain ⟨j, hj, rfl, hout, hLx⟩ := hrel
    have HOUT := hide hout; have HLx := hide hLx
    clear hout hLx
    have r_d := R0.out.later HLx.out
    have d0 := r_d.cell (i := 0) rfl; have d1 := r_d.cell (i := 1) rfl; have d2 := r_d.cell (i := 2) rfl; have d3 := r_d.cell (i := 3) rfl; have d4 := r_d.cell (i := 4) rfl
    clear r_d
    by_cases hjn : j < nx
    · have hj0 : (0 : Int) ≤ (j : Int) := by omega
      have hj1 : (j : Int) < nx := by omega
      obtain ⟨xq, hxq⟩ : ∃ q, x[j]? = some q := ⟨x[j]'(by have := HNX.out; omega), List.getElem?_eq_getElem _⟩
      obtain ⟨lq, hlq⟩ : ∃ q, P.lo[j]? = some q := ⟨P.lo[j]'(by have := L3.out; have := HNL.out; have := HNX.out; omega), List.getElem?_eq_getElem _⟩
      obtain ⟨b1, off1, xs, xA, xn, xc, xs', xA', xn', xc', ex, x1, x2, x3, x4, xE⟩ := HX.out.at_ hxq
      obtain ⟨b2, off2, ls, lA, ln, lc, ls', lA', ln', lc', el, l1, l2, l3, l4, lE⟩ := HI.out.lo.at_ hlq
      subst ex el
      have HEX := hide (show RawR W0 (.agg #[.bool xs, .slice xA xn xc, .bool xs', .slice xA' xn' xc']) xq 1 from xE); have HEL := hide (show RawR W0 (.agg #[.bool ls, .slice lA ln lc, .bool ls', .slice lA' ln' lc']) lq 1 from lE)
      have HT : Hid ((axpyL x P.lo (-1)).take (j+1) = (axpyL x P.lo (-1)).take j ++ [xq - lq]) := hide (by rw [axpy_take_succ hxq hlq]; congr 2; grind)
      have HLM : Hid (((axpyL x P.lo (-1)).take j).length ≤ 3000000) := hide (by rw [List.length_take]; omega)
      have HX0 := hide x1; have p2 := Later.cell HLx.out (R0.out.cell (i := 2) rfl)
      clear hxq hlq xE lE HX0
      have hj2 : j < n3 := by have := L3.out; have := HNL.out; have := HNX.out; omega
      go_upto_region 5 with fail
      have t2 := R0.out.cell (i := 2) rfl
      clear d0 d1 d2 d3 d4 p2
      have HT1 : Hid (∀ w', Later wr w' → w'.cell? ⟨w.heap.size, 2, none⟩ = some (.slice (some ⟨b2, off2, none⟩) n3 c3) ∧ w'.cell? ⟨b1, off1 + j * 4, none⟩ = some (.bool xs) ∧ w'.cell? ⟨b1, off1 + j * 4 + 1, none⟩ = some (.slice xA xn xc) ∧ w'.cell? ⟨b1, off1 + j * 4 + 2, none⟩ = some (.bool xs') ∧ w'.cell? ⟨b1, off1 + j * 4 + 3, none⟩ = some (.slice xA' xn' xc') ∧ w'.cell? ⟨b2, off2 + j * 4, none⟩ = some (.bool ls) ∧ w'.cell? ⟨b2, off2 + j * 4 + 1, none⟩ = some (.slice lA ln lc) ∧ w'.cell? ⟨b2, off2 + j * 4 + 2, none⟩ = some (.bool ls') ∧ w'.cell? ⟨b2, off2 + j * 4 + 3, none⟩ = some (.slice lA' ln' lc')) := hide fun w' hb => ⟨Later.cell (HLx.out.trans hb) t2, Later.cell (HLx.out.trans hb) x1, Later.cell (HLx.out.trans hb) x2, Later.cell (HLx.out.trans hb) x3, Later.cell (HLx.out.trans hb) x4, Later.cell (HLx.out.trans hb) l1, Later.cell (HLx.out.trans hb) l2, Later.cell (HLx.out.trans hb) l3, Later.cell (HLx.out.trans hb) l4⟩
      have hmx : Tryz.prog.follows .mixedOrders = true := by kernel_rfl
      refine wp_region_N (fun w' => w'.cell? ⟨w.heap.size, 2, none⟩ = some (.slice (some ⟨b2, off2, none⟩) n3 c3) ∧ w'.cell? ⟨b1, off1 + j * 4, none⟩ = some (.bool xs) ∧ w'.cell? ⟨b1, off1 + j * 4 + 1, none⟩ = some (.slice xA xn xc) ∧ w'.cell? ⟨b1, off1 + j * 4 + 2, none⟩ = some (.bool xs') ∧ w'.cell? ⟨b1, off1 + j * 4 + 3, none⟩ = some (.slice xA' xn' xc') ∧ w'.cell? ⟨b2, off2 + j * 4, none⟩ = some (.bool ls) ∧ w'.cell? ⟨b2, off2 + j * 4 + 1, none⟩ = some (.slice lA ln lc) ∧ w'.cell? ⟨b2, off2 + j * 4 + 2, none⟩ = some (.bool ls') ∧ w'.cell? ⟨b2, off2 + j * 4 + 3, none⟩ = some (.slice lA' ln' lc')) [] hmx (HT1.out _ lt_) (fun hHeld => ?_)
      refine tkB 17 0 ?_
      refine tkB 18 1 ?_
      refine tkB 19 2 ?_
      refine tkB 20 3 ?_
      refine tkB 21 4 ?_
      refine tkB 22 5 ?_
      refine tkB 23 6 ?_
      refine tkB 24 7 ?_
      refine tkB 25 8 ?_
      refine tkB 26 9 ?_
      refine wpAnyN_ready (rs := [10]) (by kernel_rfl) (by simp) ?_
      refine AllReadyN.held rfl (by rfl) (fun K hK => ?_) AllReadyN.nil
      go_simp
      refine (qsub_calls _ _ _ xq lq 1 1 (RawR.later HEX.out (HLx.out.trans lt_)) (RawR.later HEL.out (HLx.out.trans lt_)) (by omega)).mono ?_
      rintro e w70 ⟨v70, rfl, o70, b70⟩
      obtain ⟨s70, P70, q70, e70, P70', q70', e70', rfl, o70⟩ := o70.open_; have O70 := hide o70; clear o70
      have l70 : Later wr w70 := Later.trans lt_ b70
      refine hK.out _ _ ?_ (fun hHeld => ?_)
      · exact HT1.out _ lt_
      clear hK K
      try simp only [Act.put, List.setIfInBounds_toArray, List.set_cons_zero, List.set_cons_succ]
      refine wpAnyN_ready (rs := [11]) (by kernel_rfl) (by simp) ?_
      refine AllReadyN.held rfl (by rfl) (fun K hK => ?_) AllReadyN.nil
      go_simp
      refine hK.out _ _ ?_ (fun hHeld => ?_)
      · exact HT1.out _ lt_
      clear hK K
      try simp only [Act.put, List.setIfInBounds_toArray, List.set_cons_zero, List.set_cons_succ]
      refine wpAnyN_ready (rs := [12]) (by kernel_rfl) (by simp) ?_
      refine AllReadyN.held rfl (by rfl) (fun K hK => ?_) AllReadyN.nil
      refine wp_append_rowu _ _ rfl rfl (HOUT.out.later lt_) rfl (Row.new w70 36 [.bool s70, .slice P70 q70 e70, .bool false, .slice P70' q70' e70']) (q := xq - lq) (OwnR.later O70.out ((Later.refl w70).alloc _)) (by have := HLM.out; omega) (by have h1 := HLx.out.size; have h2 := l70.size; rw [World.size_alloc]; omega) ?_
      intro v71 w71 k1 k2 k3
      have hblt := HOUT.out.lt
      have l71 : Later W0 w71 := ((HLx.out.trans l70).alloc _).grown k2 (fun k hk => (hblt k hk).1)
      have HT3 : Hid (w71.cell? ⟨w.heap.size, 2, none⟩ = some (.slice (some ⟨b2, off2, none⟩) n3 c3) ∧ w71.cell? ⟨b1, off1 + j * 4, none⟩ = some (.bool xs) ∧ w71.cell? ⟨b1, off1 + j * 4 + 1, none⟩ = some (.slice xA xn xc) ∧ w71.cell? ⟨b1, off1 + j * 4 + 2, none⟩ = some (.bool xs') ∧ w71.cell? ⟨b1, off1 + j * 4 + 3, none⟩ = some (.slice xA' xn' xc') ∧ w71.cell? ⟨b2, off2 + j * 4, none⟩ = some (.bool ls) ∧ w71.cell? ⟨b2, off2 + j * 4 + 1, none⟩ = some (.slice lA ln lc) ∧ w71.cell? ⟨b2, off2 + j * 4 + 2, none⟩ = some (.bool ls') ∧ w71.cell? ⟨b2, off2 + j * 4 + 3, none⟩ = some (.slice lA' ln' lc')) := hide ⟨Later.cell l71 t2, Later.cell l71 x1, Later.cell l71 x2, Later.cell l71 x3, Later.cell l71 x4, Later.cell l71 l1, Later.cell l71 l2, Later.cell l71 l3, Later.cell l71 l4⟩
      have HK1 := hide k1
      clear k1 k2 k3 hblt
      refine hK.out _ _ ?_ (fun hHeld => ?_)
      · exact HT3.out
      clear hK K
      try simp only [Act.put, List.setIfInBounds_toArray, List.set_cons_zero, List.set_cons_succ]
      refine tkB 5 13 ?_
      refine wpAnyN_done (by kernel_rfl) ?_ _
      clear hHeld HT3
      go_wp2_with fail
      exact ⟨⟨j+1, by omega, by go_num, by rw [HT.out]; exact HK1.out, l71⟩, by simp [intOf]; omega⟩
    · have hj1 : ¬ (j : Int) < nx := by omega
      have HF1 : Hid ((axpyL x P.lo (-1)).take j = axpyL x P.lo (-1) ++ slackR x (P.rows.take 0)) := hide (by
        rw [List.take_of_length_le (by rw [axpy_len_ HXL.out]; have := HNX.out; omega)]; show _ = _ ++ []; rw [List.append_nil])
      rw [HF1.out] at HOUT
      have HOUT1 := HOUT; have HLx1 := HLx
      clear HF1 HOUT HLx d0 d1 d2 d3 d4
      go_wp2_with fail
      go_loopw [5, 7] (fun yv i wr => ∃ j : Nat, j ≤ n2 ∧ i = .int .i64 (j : Int) ∧ RowU wr W0.heap.size yv (axpyL x P.lo (-1) ++ slackR x (P.rows.take j)) ∧ Later W0 wr) (fun _ i _ => (n2 - intOf i).toNat)
      case atStart => exact ⟨0, by omega, rfl, HOUT1.out, HLx1.out⟩
      case round =>
        obtain ⟨j, hj, rfl, hout, hLx⟩ := hrel
        have HOUT := hide hout; have HLx := hide hLx
        clear hout hLx
        have r_d := R0.out.later HLx.out
        have d0 := r_d.cell (i := 0) rfl; have d1 := r_d.cell (i := 1) rfl; have d2 := r_d.cell (i := 2) rfl; have d3 := r_d.cell (i := 3) rfl; have d4 := r_d.cell (i := 4) rfl
        clear r_d
        by_cases hjn : j < n2
        · have hj0 : (0 : Int) ≤ (j : Int) := by omega
          have hj1 : (j : Int) < n2 := by omega
          obtain ⟨r, hr⟩ : ∃ r, P.rows[j]? = some r := ⟨P.rows[j]'(by have := L2.out; omega), List.getElem?_eq_getElem _⟩
          obtain ⟨b3, off3, rfl, rc, z0, z1, z2, z3, z4, z5, hE⟩ := HI.out.rows.at6 hr
          have hrm := HP.out.rows r (List.mem_of_getElem? hr)
          have HE := hide hE; have HRM := hide hrm
          have HERW : Hid (RawR W0 (.agg #[.bool rc.e.a, .slice rc.e.A rc.e.n rc.e.c, .bool rc.e.a', .slice rc.e.A' rc.e.n' rc.e.c']) r.rhs 1) := hide hE.rhs
          have HT0 : Hid (slackR x (P.rows.take (j+1)) = slackR x (P.rows.take j) ++ (senX r.sense).map (fun s => s * (r.rhs - dotL r.coef x))) := hide (by rw [List.take_add_one, hr, Option.toList_some, slackR_append, slackR_one])
          have hln : (axpyL x P.lo (-1) ++ slackR x (P.rows.take j)).length ≤ 3000000 := by
            have h1 := slackR_len x (P.rows.take j) 0; have h2 := extraR_len_le (P.rows.take j) 0
            rw [List.length_append, axpy_len_ HXL.out, h1]; rw [List.length_take] at h2; have := HNX.out; have := HP.out.rl; omega
          have HLM := hide hln
          have hsd : Sized (dotL r.coef x) 200 := (sized_dotL (Rats.sized hE.coef) (Rats.sized HX.out)).mono (by
            have : r.coef.length * (1 + 1 + (1 + 1) + 1) ≤ 24 * 5 := Nat.mul_le_mul (by rw [hrm.1]; exact HP.out.n24) (by omega)
            omega)
          have HSD := hide hsd
          have p1 := Later.cell HLx.out (R0.out.cell (i := 1) rfl); have y0 := Later.cell HLx.out z0; have y1 := Later.cell HLx.out z1
          clear hr hE hrm hln hsd
          go_wp2_with fail
          refine (qdot_calls _ _ _ r.coef x 1 1 (HE.out.coef.later ERaw.later HLx.out) (HX.out.later ERaw.later HLx.out) (by rw [HRM.out.1, HXC.out]) (by have := Nat.mul_le_mul (show r.coef.length + 1 ≤ 25 by rw [HRM.out.1]; have := HP.out.n24; omega) (Nat.le_refl (1 + 1 + 4)); omega)).mono ?_
          rintro e w60 ⟨v60, ok60, rfl, ⟨o60, rfl⟩, b60⟩
          obtain ⟨s60, P60, q60, e60, P60', q60', e60', rfl, o60⟩ := o60.open_; have O60 := hide o60; clear o60
          go_upto_region 10 with fail
          obtain ⟨wd, hwd⟩ : ∃ wd, wd = w60.alloc (Obj.cells #[Value.bool s60, Value.slice P60 q60 e60, Value.bool false, Value.slice P60' q60' e60'] 36) := ⟨_, rfl⟩
          obtain ⟨gd, hgd⟩ : ∃ gd, gd = w60.heap.size := ⟨_, rfl⟩
          have bwd : Later w60 wd := by rw [hwd]; exact (Later.refl _).alloc _
          have rgd : Row wd gd 36 [.bool s60, .slice P60 q60 e60, .bool false, .slice P60' q60' e60'] := by rw [hwd, hgd]; exact Row.new _ _ _
          rw [← hwd, ← hgd]
          have HL0 := hide (HLx.out.trans (b60.trans bwd)); have OD := hide (OwnR.later O60.out bwd); have RD := hide rgd; have HD := hide (b60.trans bwd)
          have HDL : Hid (wr.heap.size ≤ gd) := hide (by rw [hgd]; exact b60.size)
          clear hwd hgd bwd b60 O60 rgd d0 d1 d2 d3 d4 p1 y0 y1
          have HOUT0 := HOUT
          have HOUT := hide (HOUT0.out.later HD.out)
          have HLx := HL0
          have t1 := R0.out.cell (i := 1) rfl
          have p1 := Later.cell HLx.out t1; have y1 := Later.cell HLx.out z1
          rcases (by have := HRM.out.2.1; omega : r.sense = 0 ∨ r.sense = 1 ∨ r.sense = 2) with hs | hs | hs
          · rw [hs] at z1 y1
            have HT : Hid (axpyL x P.lo (-1) ++ slackR x (P.rows.take (j+1)) = (axpyL x P.lo (-1) ++ slackR x (P.rows.take j)) ++ [r.rhs - dotL r.coef x]) := hide (by
              rw [HT0.out, hs, List.append_assoc]; congr 2
              show [1 * (r.rhs - dotL r.coef x)] = _; congr 1; grind)
            go_upto_region 11 with fail
            clear p1 y1
            have HT1 : Hid (∀ w', Later wd w' → w'.cell? ⟨w.heap.size, 1, none⟩ = some (.slice (some ⟨b3, off3, none⟩) n2 c2) ∧ w'.cell? ⟨b3, off3 + j * 6 + 2, none⟩ = some (.bool rc.e.a) ∧ w'.cell? ⟨b3, off3 + j * 6 + 3, none⟩ = some (.slice rc.e.A rc.e.n rc.e.c) ∧ w'.cell? ⟨b3, off3 + j * 6 + 4, none⟩ = some (.bool rc.e.a') ∧ w'.cell? ⟨b3, off3 + j * 6 + 5, none⟩ = some (.slice rc.e.A' rc.e.n' rc.e.c') ∧ w'.cell? ⟨gd, 0, none⟩ = some (.bool s60) ∧ w'.cell? ⟨gd, 1, none⟩ = some (.slice P60 q60 e60) ∧ w'.cell? ⟨gd, 2, none⟩ = some (.bool false) ∧ w'.cell? ⟨gd, 3, none⟩ = some (.slice P60' q60' e60')) := hide fun w' hb => ⟨Later.cell (HLx.out.trans hb) t1, Later.cell (HLx.out.trans hb) z2, Later.cell (HLx.out.trans hb) z3, Later.cell (HLx.out.trans hb) z4, Later.cell (HLx.out.trans hb) z5, (RD.out.later hb).cell rfl, (RD.out.later hb).cell rfl, (RD.out.later hb).cell rfl, (RD.out.later hb).cell rfl⟩
            have hmx : Tryz.prog.follows .mixedOrders = true := by kernel_rfl
            refine wp_region_N (fun w' => w'.cell? ⟨w.heap.size, 1, none⟩ = some (.slice (some ⟨b3, off3, none⟩) n2 c2) ∧ w'.cell? ⟨b3, off3 + j * 6 + 2, none⟩ = some (.bool rc.e.a) ∧ w'.cell? ⟨b3, off3 + j * 6 + 3, none⟩ = some (.slice rc.e.A rc.e.n rc.e.c) ∧ w'.cell? ⟨b3, off3 + j * 6 + 4, none⟩ = some (.bool rc.e.a') ∧ w'.cell? ⟨b3, off3 + j * 6 + 5, none⟩ = some (.slice rc.e.A' rc.e.n' rc.e.c') ∧ w'.cell? ⟨gd, 0, none⟩ = some (.bool s60) ∧ w'.cell? ⟨gd, 1, none⟩ = some (.slice P60 q60 e60) ∧ w'.cell? ⟨gd, 2, none⟩ = some (.bool false) ∧ w'.cell? ⟨gd, 3, none⟩ = some (.slice P60' q60' e60')) [] hmx (HT1.out _ lt_) (fun hHeld => ?_)
            refine tkB 55 0 ?_
            refine tkB 56 1 ?_
            refine tkB 57 2 ?_
            refine tkB 58 3 ?_
            refine tkB 59 4 ?_
            refine tkB 60 5 ?_
            refine tkB 61 6 ?_
            refine tkB 62 7 ?_
            refine wpAnyN_ready (rs := [8]) (by kernel_rfl) (by simp) ?_
            refine AllReadyN.held rfl (by rfl) (fun K hK => ?_) AllReadyN.nil
            go_simp
            refine (qsub_calls _ _ _ r.rhs (dotL r.coef x) 1 200 (RawR.later HERW.out (HL0.out.trans lt_)) (OwnR.raw (OwnR.later OD.out lt_) HSD.out) (by omega)).mono ?_
            rintro e w70 ⟨v70, rfl, o70, b70⟩
            obtain ⟨s70, P70, q70, e70, P70', q70', e70', rfl, o70⟩ := o70.open_; have O70 := hide o70; clear o70
            have l70 : Later wd w70 := Later.trans lt_ b70
            refine hK.out _ _ ?_ (fun hHeld => ?_)
            · exact HT1.out _ lt_
            clear hK K
            try simp only [Act.put, List.setIfInBounds_toArray, List.set_cons_zero, List.set_cons_succ]
            refine wpAnyN_ready (rs := [9]) (by kernel_rfl) (by simp) ?_
            refine AllReadyN.held rfl (by rfl) (fun K hK => ?_) AllReadyN.nil
            go_simp
            refine hK.out _ _ ?_ (fun hHeld => ?_)
            · exact HT1.out _ lt_
            clear hK K
            try simp only [Act.put, List.setIfInBounds_toArray, List.set_cons_zero, List.set_cons_succ]
            refine wpAnyN_ready (rs := [10]) (by kernel_rfl) (by simp) ?_
            refine AllReadyN.held rfl (by rfl) (fun K hK => ?_) AllReadyN.nil
            refine wp_append_rowu _ _ rfl rfl (HOUT.out.later lt_) rfl (Row.new w70 36 [.bool s70, .slice P70 q70 e70, .bool false, .slice P70' q70' e70']) (q := (r.rhs - dotL r.coef x)) (OwnR.later O70.out ((Later.refl w70).alloc _)) (by have := HLM.out; omega) (by have h1 := HLx.out.size; have h2 := l70.size; rw [World.size_alloc]; omega) ?_
            intro v71 w71 k1 k2 k3
            have hblt := HOUT.out.lt
            have l71 : Later W0 w71 := ((HLx.out.trans l70).alloc _).grown k2 (fun k hk => (hblt k hk).1)
            have rb := (RD.out.later (l70.alloc (Obj.cells #[Value.bool s70, Value.slice P70 q70 e70, Value.bool false, Value.slice P70' q70' e70'] 36))).grown k2 (fun e => by have := (HOUT0.out.lt _ e.symm).2; have := HDL.out; omega)
            have HT3 : Hid (w71.cell? ⟨w.heap.size, 1, none⟩ = some (.slice (some ⟨b3, off3, none⟩) n2 c2) ∧ w71.cell? ⟨b3, off3 + j * 6 + 2, none⟩ = some (.bool rc.e.a) ∧ w71.cell? ⟨b3, off3 + j * 6 + 3, none⟩ = some (.slice rc.e.A rc.e.n rc.e.c) ∧ w71.cell? ⟨b3, off3 + j * 6 + 4, none⟩ = some (.bool rc.e.a') ∧ w71.cell? ⟨b3, off3 + j * 6 + 5, none⟩ = some (.slice rc.e.A' rc.e.n' rc.e.c') ∧ w71.cell? ⟨gd, 0, none⟩ = some (.bool s60) ∧ w71.cell? ⟨gd, 1, none⟩ = some (.slice P60 q60 e60) ∧ w71.cell? ⟨gd, 2, none⟩ = some (.bool false) ∧ w71.cell? ⟨gd, 3, none⟩ = some (.slice P60' q60' e60')) := hide ⟨Later.cell l71 t1, Later.cell l71 z2, Later.cell l71 z3, Later.cell l71 z4, Later.cell l71 z5, rb.cell rfl, rb.cell rfl, rb.cell rfl, rb.cell rfl⟩
            have HK1 := hide k1
            clear k1 k2 k3 hblt
            refine hK.out _ _ ?_ (fun hHeld => ?_)
            · exact HT3.out
            clear hK K
            try simp only [Act.put, List.setIfInBounds_toArray, List.set_cons_zero, List.set_cons_succ]
            refine tkB 5 11 ?_
            refine wpAnyN_done (by kernel_rfl) ?_ _
            clear hHeld HT3
            have p1 := Later.cell l71 t1; have y1 := Later.cell l71 z1
            go_wp2_with fail
            exact ⟨⟨j+1, by omega, by go_num, by rw [HT.out]; exact HK1.out, l71⟩, by simp [intOf]; omega⟩
          · rw [hs] at z1 y1
            have HT : Hid (axpyL x P.lo (-1) ++ slackR x (P.rows.take (j+1)) = (axpyL x P.lo (-1) ++ slackR x (P.rows.take j))) := hide (by
              rw [HT0.out, hs]; show _ ++ (_ ++ []) = _; rw [List.append_nil])
            go_wp2_with fail
            exact ⟨⟨j+1, by omega, by go_num, by rw [HT.out]; exact HOUT.out, HLx.out⟩, by simp [intOf]; omega⟩
          · rw [hs] at z1 y1
            have HT : Hid (axpyL x P.lo (-1) ++ slackR x (P.rows.take (j+1)) = (axpyL x P.lo (-1) ++ slackR x (P.rows.take j)) ++ [dotL r.coef x - r.rhs]) := hide (by
              rw [HT0.out, hs, List.append_assoc]; congr 2
              show [(-1) * (r.rhs - dotL r.coef x)] = _; congr 1; grind)
            go_upto_region 13 with fail
            clear p1 y1
            have HT1 : Hid (∀ w', Later wd w' → w'.cell? ⟨w.heap.size, 1, none⟩ = some (.slice (some ⟨b3, off3, none⟩) n2 c2) ∧ w'.cell? ⟨b3, off3 + j * 6 + 2, none⟩ = some (.bool rc.e.a) ∧ w'.cell? ⟨b3, off3 + j * 6 + 3, none⟩ = some (.slice rc.e.A rc.e.n rc.e.c) ∧ w'.cell? ⟨b3, off3 + j * 6 + 4, none⟩ = some (.bool rc.e.a') ∧ w'.cell? ⟨b3, off3 + j * 6 + 5, none⟩ = some (.slice rc.e.A' rc.e.n' rc.e.c') ∧ w'.cell? ⟨gd, 0, none⟩ = some (.bool s60) ∧ w'.cell? ⟨gd, 1, none⟩ = some (.slice P60 q60 e60) ∧ w'.cell? ⟨gd, 2, none⟩ = some (.bool false) ∧ w'.cell? ⟨gd, 3, none⟩ = some (.slice P60' q60' e60')) := hide fun w' hb => ⟨Later.cell (HLx.out.trans hb) t1, Later.cell (HLx.out.trans hb) z2, Later.cell (HLx.out.trans hb) z3, Later.cell (HLx.out.trans hb) z4, Later.cell (HLx.out.trans hb) z5, (RD.out.later hb).cell rfl, (RD.out.later hb).cell rfl, (RD.out.later hb).cell rfl, (RD.out.later hb).cell rfl⟩
            have hmx : Tryz.prog.follows .mixedOrders = true := by kernel_rfl
            refine wp_region_N (fun w' => w'.cell? ⟨w.heap.size, 1, none⟩ = some (.slice (some ⟨b3, off3, none⟩) n2 c2) ∧ w'.cell? ⟨b3, off3 + j * 6 + 2, none⟩ = some (.bool rc.e.a) ∧ w'.cell? ⟨b3, off3 + j * 6 + 3, none⟩ = some (.slice rc.e.A rc.e.n rc.e.c) ∧ w'.cell? ⟨b3, off3 + j * 6 + 4, none⟩ = some (.bool rc.e.a') ∧ w'.cell? ⟨b3, off3 + j * 6 + 5, none⟩ = some (.slice rc.e.A' rc.e.n' rc.e.c') ∧ w'.cell? ⟨gd, 0, none⟩ = some (.bool s60) ∧ w'.cell? ⟨gd, 1, none⟩ = some (.slice P60 q60 e60) ∧ w'.cell? ⟨gd, 2, none⟩ = some (.bool false) ∧ w'.cell? ⟨gd, 3, none⟩ = some (.slice P60' q60' e60')) [] hmx (HT1.out _ lt_) (fun hHeld => ?_)
            refine tkB 73 0 ?_
            refine tkB 74 1 ?_
            refine tkB 75 2 ?_
            refine tkB 76 3 ?_
            refine tkB 77 4 ?_
            refine tkB 78 5 ?_
            refine tkB 79 6 ?_
            refine tkB 80 7 ?_
            refine wpAnyN_ready (rs := [8]) (by kernel_rfl) (by simp) ?_
            refine AllReadyN.held rfl (by rfl) (fun K hK => ?_) AllReadyN.nil
            go_simp
            refine (qsub_calls _ _ _ (dotL r.coef x) r.rhs 200 1 (OwnR.raw (OwnR.later OD.out lt_) HSD.out) (RawR.later HERW.out (HL0.out.trans lt_)) (by omega)).mono ?_
            rintro e w70 ⟨v70, rfl, o70, b70⟩
            obtain ⟨s70, P70, q70, e70, P70', q70', e70', rfl, o70⟩ := o70.open_; have O70 := hide o70; clear o70
            have l70 : Later wd w70 := Later.trans lt_ b70
            refine hK.out _ _ ?_ (fun hHeld => ?_)
            · exact HT1.out _ lt_
            clear hK K
            try simp only [Act.put, List.setIfInBounds_toArray, List.set_cons_zero, List.set_cons_succ]
            refine wpAnyN_ready (rs := [9]) (by kernel_rfl) (by simp) ?_
            refine AllReadyN.held rfl (by rfl) (fun K hK => ?_) AllReadyN.nil
            go_simp
            refine hK.out _ _ ?_ (fun hHeld => ?_)
            · exact HT1.out _ lt_
            clear hK K
            try simp only [Act.put, List.setIfInBounds_toArray, List.set_cons_zero, List.set_cons_succ]
            refine wpAnyN_ready (rs := [10]) (by kernel_rfl) (by simp) ?_
            refine AllReadyN.held rfl (by rfl) (fun K hK => ?_) AllReadyN.nil
            refine wp_append_rowu _ _ rfl rfl (HOUT.out.later lt_) rfl (Row.new w70 36 [.bool s70, .slice P70 q70 e70, .bool false, .slice P70' q70' e70']) (q := (dotL r.coef x - r.rhs)) (OwnR.later O70.out ((Later.refl w70).alloc _)) (by have := HLM.out; omega) (by have h1 := HLx.out.size; have h2 := l70.size; rw [World.size_alloc]; omega) ?_
            intro v71 w71 k1 k2 k3
            have hblt := HOUT.out.lt
            have l71 : Later W0 w71 := ((HLx.out.trans l70).alloc _).grown k2 (fun k hk => (hblt k hk).1)
            have rb := (RD.out.later (l70.alloc (Obj.cells #[Value.bool s70, Value.slice P70 q70 e70, Value.bool false, Value.slice P70' q70' e70'] 36))).grown k2 (fun e => by have := (HOUT0.out.lt _ e.symm).2; have := HDL.out; omega)
            have HT3 : Hid (w71.cell? ⟨w.heap.size, 1, none⟩ = some (.slice (some ⟨b3, off3, none⟩) n2 c2) ∧ w71.cell? ⟨b3, off3 + j * 6 + 2, none⟩ = some (.bool rc.e.a) ∧ w71.cell? ⟨b3, off3 + j * 6 + 3, none⟩ = some (.slice rc.e.A rc.e.n rc.e.c) ∧ w71.cell? ⟨b3, off3 + j * 6 + 4, none⟩ = some (.bool rc.e.a') ∧ w71.cell? ⟨b3, off3 + j * 6 + 5, none⟩ = some (.slice rc.e.A' rc.e.n' rc.e.c') ∧ w71.cell? ⟨gd, 0, none⟩ = some (.bool s60) ∧ w71.cell? ⟨gd, 1, none⟩ = some (.slice P60 q60 e60) ∧ w71.cell? ⟨gd, 2, none⟩ = some (.bool false) ∧ w71.cell? ⟨gd, 3, none⟩ = some (.slice P60' q60' e60')) := hide ⟨Later.cell l71 t1, Later.cell l71 z2, Later.cell l71 z3, Later.cell l71 z4, Later.cell l71 z5, rb.cell rfl, rb.cell rfl, rb.cell rfl, rb.cell rfl⟩
            have HK1 := hide k1
            clear k1 k2 k3 hblt
            refine hK.out _ _ ?_ (fun hHeld => ?_)
            · exact HT3.out
            clear hK K
            try simp only [Act.put, List.setIfInBounds_toArray, List.set_cons_zero, List.set_cons_succ]
            refine tkB 5 11 ?_
            refine wpAnyN_done (by kernel_rfl) ?_ _
            clear hHeld HT3
            go_wp2_with fail
            exact ⟨⟨j+1, by omega, by go_num, by rw [HT.out]; exact HK1.out, l71⟩, by simp [intOf]; omega⟩
        · have hj1 : ¬ (j : Int) < n2 := by omega
          have HF2 : Hid (axpyL x P.lo (-1) ++ slackR x (P.rows.take j) = axpyL x P.lo (-1) ++ slackR x P.rows ++ slackE P x (endsFrom (P.opn.take 0) 0)) := hide (by
            rw [List.take_of_length_le (by have := L2.out; omega)]; show _ = _ ++ []; rw [List.append_nil])
          rw [HF2.out] at HOUT
          have HOUT2 := HOUT; have HLx2 := HLx
          clear HF2 HOUT HLx
          go_wp2_with fail
          clear d0 d1 d2 d3 d4
          go_loopw [5, 10] (fun yv i wr => ∃ j : Nat, j ≤ nx ∧ i = .int .i64 (j : Int) ∧ RowU wr W0.heap.size yv (axpyL x P.lo (-1) ++ slackR x P.rows ++ slackE P x (endsFrom (P.opn.take j) 0)) ∧ Later W0 wr) (fun _ i _ => (nx - intOf i).toNat)
          case atStart => exact ⟨0, by omega, rfl, HOUT2.out, HLx2.out⟩
          case round =>
            obtain ⟨j, hj, rfl, hout, hLx⟩ := hrel
            have HOUT := hide hout; have HLx := hide hLx
            clear hout hLx
            have r_d := R0.out.later HLx.out
            have d0 := r_d.cell (i := 0) rfl; have d1 := r_d.cell (i := 1) rfl; have d2 := r_d.cell (i := 2) rfl; have d3 := r_d.cell (i := 3) rfl; have d4 := r_d.cell (i := 4) rfl
            clear r_d
            by_cases hjn : j < nx
            · have hj0 : (0 : Int) ≤ (j : Int) := by omega
              have hj1 : (j : Int) < nx := by omega
              obtain ⟨o, ho⟩ : ∃ o, P.opn[j]? = some o := ⟨P.opn[j]'(by have := HP.out.opn; have := HXC.out; have := HNX.out; omega), List.getElem?_eq_getElem _⟩
              obtain ⟨b4, off4, rfl, z4⟩ := HI.out.opn.at_ ho
              have y4 := Later.cell HLx.out z4
              have hT0 : endsFrom (P.opn.take (j+1)) 0 = endsFrom (P.opn.take j) 0 ++ (if o then [] else [j]) := by
                rw [List.take_add_one, ho, Option.toList_some, endsFrom_append, List.length_take, Nat.zero_add, Nat.min_eq_left (by have := HP.out.opn; have := HXC.out; have := HNX.out; omega)]
                congr 1 <;> (cases o <;> rfl)
              have hj5 : j < n5 := by have := L5.out; have := HP.out.opn; have := HXC.out; have := HNX.out; omega
              have HT0 := hide hT0
              have hln : (axpyL x P.lo (-1) ++ slackR x P.rows ++ slackE P x (endsFrom (P.opn.take j) 0)).length ≤ 3000000 := by
                have h1 := slackR_len x P.rows 0; have h2 := extraR_len_le P.rows 0; have h3 := endsFrom_len_le (P.opn.take j) 0
                rw [List.length_append, List.length_append, axpy_len_ HXL.out, h1]; unfold slackE; rw [List.length_map]; rw [List.length_take] at h3; have := HNX.out; have := HP.out.rl; omega
              have HLM := hide hln
              clear hT0 hln ho
              cases o with
              | true =>
                have HT : Hid (axpyL x P.lo (-1) ++ slackR x P.rows ++ slackE P x (endsFrom (P.opn.take (j+1)) 0) = axpyL x P.lo (-1) ++ slackR x P.rows ++ slackE P x (endsFrom (P.opn.take j) 0)) := hide (by rw [HT0.out, if_pos rfl, List.append_nil])
                go_wp2_with fail
                exact ⟨⟨j+1, by omega, by go_num, by rw [HT.out]; exact HOUT.out, HLx.out⟩, by simp [intOf]; omega⟩
              | false =>
                obtain ⟨xq, hxq⟩ : ∃ q, x[j]? = some q := ⟨x[j]'(by have := HNX.out; omega), List.getElem?_eq_getElem _⟩
                obtain ⟨kq, hkq⟩ : ∃ q, P.hi[j]? = some q := ⟨P.hi[j]'(by have := HP.out.hi; have := HXC.out; have := HNX.out; omega), List.getElem?_eq_getElem _⟩
                obtain ⟨b1, off1, xs, xA, xn, xc, xs', xA', xn', xc', ex, x1, x2, x3, x4, xE⟩ := HX.out.at_ hxq
                obtain ⟨b2, off2, ms, mA, mn, mc, ms', mA', mn', mc', em, m1, m2, m3, m4, mE⟩ := HI.out.hi.at_ hkq
                subst ex em
                have HEX := hide (show RawR W0 (.agg #[.bool xs, .slice xA xn xc, .bool xs', .slice xA' xn' xc']) xq 1 from xE); have HEK := hide (show RawR W0 (.agg #[.bool ms, .slice mA mn mc, .bool ms', .slice mA' mn' mc']) kq 1 from mE)
                have HT : Hid (axpyL x P.lo (-1) ++ slackR x P.rows ++ slackE P x (endsFrom (P.opn.take (j+1)) 0) = (axpyL x P.lo (-1) ++ slackR x P.rows ++ slackE P x (endsFrom (P.opn.take j) 0)) ++ [kq - xq]) := hide (by
                  rw [HT0.out, if_neg (by decide)]
                  unfold slackE
                  rw [List.map_append, ← List.append_assoc]
                  congr 1
                  show [P.hi.getD j 0 - x.getD j 0] = _
                  rw [List.getD_eq_getElem?_getD, hkq, List.getD_eq_getElem?_getD, hxq]; rfl)
                have p3 := Later.cell HLx.out (R0.out.cell (i := 3) rfl)
                clear hxq hkq xE mE
                have hj2 : j < n4 := by have := L4.out; have := HP.out.hi; have := HXC.out; have := HNX.out; omega
                go_upto_region 18 with fail
                have t3 := R0.out.cell (i := 3) rfl
                clear d0 d1 d2 d3 d4 p3
                have HT1 : Hid (∀ w', Later wr w' → w'.cell? ⟨w.heap.size, 3, none⟩ = some (.slice (some ⟨b2, off2, none⟩) n4 c4) ∧ w'.cell? ⟨b2, off2 + j * 4, none⟩ = some (.bool ms) ∧ w'.cell? ⟨b2, off2 + j * 4 + 1, none⟩ = some (.slice mA mn mc) ∧ w'.cell? ⟨b2, off2 + j * 4 + 2, none⟩ = some (.bool ms') ∧ w'.cell? ⟨b2, off2 + j * 4 + 3, none⟩ = some (.slice mA' mn' mc') ∧ w'.cell? ⟨b1, off1 + j * 4, none⟩ = some (.bool xs) ∧ w'.cell? ⟨b1, off1 + j * 4 + 1, none⟩ = some (.slice xA xn xc) ∧ w'.cell? ⟨b1, off1 + j * 4 + 2, none⟩ = some (.bool xs') ∧ w'.cell? ⟨b1, off1 + j * 4 + 3, none⟩ = some (.slice xA' xn' xc')) := hide fun w' hb => ⟨Later.cell (HLx.out.trans hb) t3, Later.cell (HLx.out.trans hb) m1, Later.cell (HLx.out.trans hb) m2, Later.cell (HLx.out.trans hb) m3, Later.cell (HLx.out.trans hb) m4, Later.cell (HLx.out.trans hb) x1, Later.cell (HLx.out.trans hb) x2, Later.cell (HLx.out.trans hb) x3, Later.cell (HLx.out.trans hb) x4⟩
                have hmx : Tryz.prog.follows .mixedOrders = true := by kernel_rfl
                refine wp_region_N (fun w' => w'.cell? ⟨w.heap.size, 3, none⟩ = some (.slice (some ⟨b2, off2, none⟩) n4 c4) ∧ w'.cell? ⟨b2, off2 + j * 4, none⟩ = some (.bool ms) ∧ w'.cell? ⟨b2, off2 + j * 4 + 1, none⟩ = some (.slice mA mn mc) ∧ w'.cell? ⟨b2, off2 + j * 4 + 2, none⟩ = some (.bool ms') ∧ w'.cell? ⟨b2, off2 + j * 4 + 3, none⟩ = some (.slice mA' mn' mc') ∧ w'.cell? ⟨b1, off1 + j * 4, none⟩ = some (.bool xs) ∧ w'.cell? ⟨b1, off1 + j * 4 + 1, none⟩ = some (.slice xA xn xc) ∧ w'.cell? ⟨b1, off1 + j * 4 + 2, none⟩ = some (.bool xs') ∧ w'.cell? ⟨b1, off1 + j * 4 + 3, none⟩ = some (.slice xA' xn' xc')) [] hmx (HT1.out _ lt_) (fun hHeld => ?_)
                refine tkB 96 0 ?_
                refine tkB 97 1 ?_
                refine tkB 98 2 ?_
                refine tkB 99 3 ?_
                refine tkB 100 4 ?_
                refine tkB 101 5 ?_
                refine tkB 102 6 ?_
                refine tkB 103 7 ?_
                refine tkB 104 8 ?_
                refine tkB 105 9 ?_
                refine wpAnyN_ready (rs := [10]) (by kernel_rfl) (by simp) ?_
                refine AllReadyN.held rfl (by rfl) (fun K hK => ?_) AllReadyN.nil
                go_simp
                refine (qsub_calls _ _ _ kq xq 1 1 (RawR.later HEK.out (HLx.out.trans lt_)) (RawR.later HEX.out (HLx.out.trans lt_)) (by omega)).mono ?_
                rintro e w70 ⟨v70, rfl, o70, b70⟩
                obtain ⟨s70, P70, q70, e70, P70', q70', e70', rfl, o70⟩ := o70.open_; have O70 := hide o70; clear o70
                have l70 : Later wr w70 := Later.trans lt_ b70
                refine hK.out _ _ ?_ (fun hHeld => ?_)
                · exact HT1.out _ lt_
                clear hK K
                try simp only [Act.put, List.setIfInBounds_toArray, List.set_cons_zero, List.set_cons_succ]
                refine wpAnyN_ready (rs := [11]) (by kernel_rfl) (by simp) ?_
                refine AllReadyN.held rfl (by rfl) (fun K hK => ?_) AllReadyN.nil
                go_simp
                refine hK.out _ _ ?_ (fun hHeld => ?_)
                · exact HT1.out _ lt_
                clear hK K
                try simp only [Act.put, List.setIfInBounds_toArray, List.set_cons_zero, List.set_cons_succ]
                refine wpAnyN_ready (rs := [12]) (by kernel_rfl) (by simp) ?_
                refine AllReadyN.held rfl (by rfl) (fun K hK => ?_) AllReadyN.nil
                refine wp_append_rowu _ _ rfl rfl (HOUT.out.later lt_) rfl (Row.new w70 36 [.bool s70, .slice P70 q70 e70, .bool false, .slice P70' q70' e70']) (q := kq - xq) (OwnR.later O70.out ((Later.refl w70).alloc _)) (by have := HLM.out; omega) (by have h1 := HLx.out.size; have h2 := l70.size; rw [World.size_alloc]; omega) ?_
                intro v71 w71 k1 k2 k3
                have hblt := HOUT.out.lt
                have l71 : Later W0 w71 := ((HLx.out.trans l70).alloc _).grown k2 (fun k hk => (hblt k hk).1)
                have HT3 : Hid (w71.cell? ⟨w.heap.size, 3, none⟩ = some (.slice (some ⟨b2, off2, none⟩) n4 c4) ∧ w71.cell? ⟨b2, off2 + j * 4, none⟩ = some (.bool ms) ∧ w71.cell? ⟨b2, off2 + j * 4 + 1, none⟩ = some (.slice mA mn mc) ∧ w71.cell? ⟨b2, off2 + j * 4 + 2, none⟩ = some (.bool ms') ∧ w71.cell? ⟨b2, off2 + j * 4 + 3, none⟩ = some (.slice mA' mn' mc') ∧ w71.cell? ⟨b1, off1 + j * 4, none⟩ = some (.bool xs) ∧ w71.cell? ⟨b1, off1 + j * 4 + 1, none⟩ = some (.slice xA xn xc) ∧ w71.cell? ⟨b1, off1 + j * 4 + 2, none⟩ = some (.bool xs') ∧ w71.cell? ⟨b1, off1 + j * 4 + 3, none⟩ = some (.slice xA' xn' xc')) := hide ⟨Later.cell l71 t3, Later.cell l71 m1, Later.cell l71 m2, Later.cell l71 m3, Later.cell l71 m4, Later.cell l71 x1, Later.cell l71 x2, Later.cell l71 x3, Later.cell l71 x4⟩
                have HK1 := hide k1
                clear k1 k2 k3 hblt
                refine hK.out _ _ ?_ (fun hHeld => ?_)
                · exact HT3.out
                clear hK K
                try simp only [Act.put, List.setIfInBounds_toArray, List.set_cons_zero, List.set_cons_succ]
                refine tkB 5 13 ?_
                refine wpAnyN_done (by kernel_rfl) ?_ _
                clear hHeld HT3
                go_wp2_with fail
                exact ⟨⟨j+1, by omega, by go_num, by rw [HT.out]; exact HK1.out, l71⟩, by simp [intOf]; omega⟩
            · have hj1 : ¬ (j : Int) < nx := by omega
              have HF : Hid (axpyL x P.lo (-1) ++ slackR x P.rows ++ slackE P x (endsFrom (P.opn.take j) 0) = slackL P x) := hide (by
                rw [List.take_of_length_le (by have := HP.out.opn; have := HXC.out; have := HNX.out; omega)]
                unfold slackL endsL; rw [List.append_assoc])
              rw [HF.out] at HOUT
              clear HF
              go_wp2_with fail
              go_ret
              exact ⟨_, rfl, HOUT.out.weaken (B0.out.size), B0.out.trans HLx.out⟩
end Go.Proofs.YtfokplidiboabaaGreat

/- FormKeeps, walk. -/
set_option linter.unusedVariables false
set_option linter.unusedSimpArgs false
set_option maxRecDepth 100000
namespace Go.Proofs.YtfokplidiboabaaGreat
open Go.RowKit Go.Shelf
attribute [local go_sem ↓] Go.wp_at_zero Go.wp_at_succ

theorem slack_small {w : World} {vC vR vL vH vO vx : Value} {P : PLp} {x : List Rat} (h : LpIn w vC vR vL vH vO 1 P) (hP : LpP P) (hx : Rats (ERaw 1) w vx x) (h5 : P.cost.length ≤ 5) : ∀ q ∈ slackL P x, Sized q 100 := by
  intro q hq
  unfold slackL at hq
  rcases List.mem_append.1 hq with hq | hq
  · exact (sized_axpy (Rats.sized hx) (Rats.sized h.lo) sized_m1 q hq).mono (by omega)
  · rcases List.mem_append.1 hq with hq | hq
    · have key : ∀ rs : List PRow, (∀ r ∈ rs, r ∈ P.rows) → ∀ q ∈ slackR x rs, Sized q 100 := by
        intro rs
        induction rs with
        | nil => intro _ q hq; cases hq
        | cons r rs ih =>
          intro hs q hq
          unfold slackR at hq
          rcases List.mem_append.1 hq with hq | hq
          · obtain ⟨s, hs2, rfl⟩ := List.mem_map.1 hq
            have hr := hs r (List.mem_cons_self ..)
            obtain ⟨rc, he⟩ := h.rows.get hr
            have h1 := sized_dotL (Rats.sized he.coef) (Rats.sized hx)
            have h2 := he.rhs.sized
            have h3 : r.coef.length * (1 + 1 + (1 + 1) + 1) ≤ 5 * 5 := Nat.mul_le_mul (by rw [(hP.rows r hr).1]; omega) (by omega)
            have hss : Sized s 1 := by
              rcases senX_cases r.sense with e | e | e <;> rw [e] at hs2
              · rw [List.mem_singleton.1 hs2]; exact sized_1
              · rw [List.mem_singleton.1 hs2]; exact sized_m1
              · cases hs2
            exact (hss.mul (h2.sub h1)).mono (by omega)
          · exact ih (fun r hr => hs r (List.mem_cons_of_mem _ hr)) q hq
      exact key P.rows (fun r hr => hr) q hq
    · obtain ⟨j, -, rfl⟩ := List.mem_map.1 hq
      exact ((sized_getD (Rats.sized h.hi)).sub (sized_getD (Rats.sized hx))).mono (by omega)
theorem cmpQ_ge (a : Rat) : (0 ≤ cmpQ a 0) ↔ 0 ≤ a := by unfold cmpQ; split <;> (try split) <;> constructor <;> intro h <;> first | omega | grind
theorem cmpQ_is (a b : Rat) : (cmpQ a b = 0) ↔ a = b := by unfold cmpQ; split <;> (try split) <;> constructor <;> intro h <;> first | omega | grind
theorem all_take_succ {l : List Rat} {j : Nat} {q : Rat} (h : l[j]? = some q) (f : Rat → Bool) : (l.take (j+1)).all f = ((l.take j).all f && f q) := by
  rw [List.take_add_one, h, Option.toList_some, List.all_append]; simp

theorem Tab.len9 {E : Elem} {w : World} {A : Option Addr} {n c : Nat} {t : List (List Rat)} (h : Tab E w (.slice A n c) t) : n = t.length := by
  obtain ⟨_, _, e, -⟩ := h
  injection e
theorem OwnRats.now_ {w : World} {B : Nat} {v : Value} {l : List Rat} (h : OwnRats w B v l) : Rats EOwn w v l := On.now h
theorem lpCost_dot_ {P : PLp} (hP : LpP P) {x : List Rat} (hx : x.length = P.cost.length) : lpCost P x = dotL P.cost x := by
  unfold lpCost dotD; rw [if_pos (lpB_iff.2 hP), if_pos hx.symm]
set_option maxHeartbeats 16000000 in
theorem formkeeps_walk (w : World) (v vx : Value) (x : List Rat) (h : ArgLp w v) (hx : Rats EAny w vx x) : Calls Tryz.prog 5 #[v, vx] w (RetV w (.bool true)) := by
  obtain ⟨A1, n1, c1, A2, n2, c2, A3, n3, c3, A4, n4, c4, A5, n5, c5, cost, rows, lo, hi, opn, rfl, h1, h2, h3, h4, h5⟩ := h
  obtain ⟨Ax, nx, cx, rfl, hnx, -⟩ := hx.form
  have H1 := hide h1; have H2 := hide h2; have H3 := hide h3; have H4 := hide h4; have H5 := hide h5; have HX0 := hide hx; have HNX := hide hnx
  clear h1 h2 h3 h4 h5 hx hnx
  obtain ⟨W0, hW0⟩ : ∃ W0, W0 = (w.alloc (Obj.cells #[Value.slice A1 n1 c1, Value.slice A2 n2 c2, Value.slice A3 n3 c3, Value.slice A4 n4 c4, Value.slice A5 n5 c5] 26)) := ⟨_, rfl⟩
  obtain ⟨hb0, r0, hsz0⟩ := boxes1 w [.slice A1 n1 c1, .slice A2 n2 c2, .slice A3 n3 c3, .slice A4 n4 c4, .slice A5 n5 c5] 26 hW0
  have B0 := hide hb0; have HW0 := hide hW0; have HSZ0 := hide hsz0
  have R0 := hide r0
  clear hb0 hW0 hsz0 r0
  go_enter Tryz.func5, Tryz.ntmps5
  go_upto_region 1 with fail
  rw [← HW0.out]
  go_wp2_with fail
  refine (awake11_calls _).mono ?_
  rintro e w1 ⟨rfl, b1⟩
  have HL1 := hide b1
  clear b1
  have r_d := R0.out.later HL1.out
  have d0 := r_d.cell (i := 0) rfl; have d1 := r_d.cell (i := 1) rfl; have d2 := r_d.cell (i := 2) rfl; have d3 := r_d.cell (i := 3) rfl; have d4 := r_d.cell (i := 4) rfl
  clear r_d
  go_wp2_with fail
  have hl1 := hide (B0.out.trans HL1.out)
  refine (fewlp_calls _ _ _ _ _ _ _ _ _ _ _ _ _ _ _ _ cost rows lo hi opn 4 (by omega) (H1.out.later EAny.later hl1.out) (H2.out.later EAnyRow.later hl1.out) (H3.out.later EAny.later hl1.out) (H4.out.later EAny.later hl1.out) (H5.out.later hl1.out)).mono ?_
  rintro e w2 ⟨t, rfl, hP, b2⟩
  have HL2 := hide (HL1.out.trans b2)
  clear b2 hl1 d0 d1 d2 d3 d4 H1 H2 H3 H4 H5
  have r_d := R0.out.later HL2.out
  have d0 := r_d.cell (i := 0) rfl; have d1 := r_d.cell (i := 1) rfl; have d2 := r_d.cell (i := 2) rfl; have d3 := r_d.cell (i := 3) rfl; have d4 := r_d.cell (i := 4) rfl
  clear r_d
  cases t with
  | false =>
    go_wp2_with fail
    go_ret
    exact ⟨rfl, B0.out.trans HL2.out⟩
  | true =>
    obtain ⟨P, hI, hc4, hlo4, hhi4, hr4, hrc4⟩ := hP rfl
    have HI2 := hide hI
    clear hP hI
    go_wp2_with fail
    refine (few_calls _ _ x 4 (HX0.out.later EAny.later (B0.out.trans HL2.out)) (by omega)).mono ?_
    rintro e w2' ⟨t, rfl, hX, rfl⟩
    cases t with
    | false =>
      go_wp2_with fail
      go_ret
      exact ⟨rfl, B0.out.trans HL2.out⟩
    | true =>
      have HX2 := hide (hX rfl)
      clear hX
      obtain ⟨u, hu⟩ : ∃ u, lpB P = u := ⟨_, rfl⟩
      have HU := hide hu
      clear hu
      go_wp2_with fail
      refine (rmay11_calls _ _ _ _ _ _ _ _ _ _ _ _ _ _ _ _ 1 P HI2.out).mono ?_
      rintro e w3 ⟨rfl, b3⟩
      rw [HU.out]
      have HL3 := hide (HL2.out.trans b3)
      have HI3 := hide (HI2.out.later b3); have HX3 := hide (HX2.out.2.later ERaw.later b3); have hx4 := HX2.out.1
      clear b3 d0 d1 d2 d3 d4 HI2 HX2
      have r_d := R0.out.later HL3.out
      have d0 := r_d.cell (i := 0) rfl; have d1 := r_d.cell (i := 1) rfl; have d2 := r_d.cell (i := 2) rfl; have d3 := r_d.cell (i := 3) rfl; have d4 := r_d.cell (i := 4) rfl
      clear r_d
      cases u with
      | false =>
          go_wp2_with fail
          go_ret
          exact ⟨rfl, B0.out.trans HL3.out⟩
      | true =>
        have HP := hide (lpB_iff.1 HU.out)
        have L1 := hide HI3.out.cost.len_
        by_cases hlen : nx = n1
        rotate_left
        · have t1 : ((nx : Int) != (n1 : Int)) = true := by rw [bne_iff_ne]; omega
          go_wp2_with fail
          go_ret
          exact ⟨rfl, B0.out.trans HL3.out⟩
        have t1 : ((nx : Int) != (n1 : Int)) = false := by rw [hlen]; simp
        have HXC : Hid (x.length = P.cost.length) := hide (by rw [← HNX.out, ← L1.out]; exact hlen)
        clear hlen
        have hc5 : P.cost.length ≤ 5 := by omega
        obtain ⟨a1, a2, a3, a4⟩ := std_small HI3.out HP.out hc5
        have HSA := hide a1; have HSB := hide a2; have HSC2 := hide a3; have HSR := hide a4
        have HSS := hide (slack_small HI3.out HP.out HX3.out hc5)
        have HYL := hide (slackL_len HP.out HXC.out)
        clear a1 a2 a3 a4
        go_wp2_with fail
        refine (pstd_calls _ _ _ _ _ _ _ _ _ _ _ _ _ _ _ _ 1 P HI3.out).mono ?_
        rintro e w20 ⟨vA, vB, vC, vr, rfl, hv, hn, b20⟩
        have hv := hv HU.out
        obtain ⟨A20, n20, c20, rfl, -⟩ := hv.a.form
        obtain ⟨A21, n21, c21, rfl, -⟩ := hv.b.form
        obtain ⟨A22, n22, c22, rfl, -⟩ := hv.c.form
        obtain ⟨s20, P20, q20, e20, P20', q20', e20', rfl, o20⟩ := hv.r.open_
        have hcode : (if lpB (P) then (0 : Int) else 1) = 0 := by rw [HU.out]; rfl
        rw [hcode]
        have HV20 := hide hv; have HB20 := hide b20
        clear hv hn o20 b20 hcode
        go_upto_region 6 with fail
        obtain ⟨wm, hwm⟩ : ∃ W, W = (w20.alloc (Obj.cells #[Value.slice A20 n20 c20, Value.slice A21 n21 c21, Value.slice A22 n22 c22] 31)).alloc (Obj.cells #[Value.bool s20, Value.slice P20 q20 e20, Value.bool false, Value.slice P20' q20' e20'] 36) := ⟨_, rfl⟩
        obtain ⟨gs, hgs⟩ : ∃ g, g = w20.heap.size := ⟨_, rfl⟩
        have bwm : Later w20 wm := by rw [hwm]; exact ((Later.refl _).alloc _).alloc _
        have rgs : Row wm gs 31 [.slice A20 n20 c20, .slice A21 n21 c21, .slice A22 n22 c22] := by rw [hwm, hgs]; exact (Row.new _ _ _).alloc _
        have rga : Row wm (gs + 1) 36 [.bool s20, .slice P20 q20 e20, .bool false, .slice P20' q20' e20'] := by rw [hwm, hgs]; have h9 := Row.new (w20.alloc (Obj.cells #[Value.slice A20 n20 c20, Value.slice A21 n21 c21, Value.slice A22 n22 c22] 31)) 36 [.bool s20, .slice P20 q20 e20, .bool false, .slice P20' q20' e20']; rw [World.size_alloc] at h9; exact h9
        rw [← hwm, ← hgs]
        have HL20 := hide (HB20.out.trans bwm); have HVV20 := hide (HV20.out.later bwm); have RS20 := hide rgs; have RA20 := hide rga
        clear hwm hgs bwm rgs rga HV20 HB20
        clear d0 d1 d2 d3 d4 t1
        have r_d := R0.out.later (HL3.out.trans HL20.out)
        have d0 := r_d.cell (i := 0) rfl; have d1 := r_d.cell (i := 1) rfl; have d2 := r_d.cell (i := 2) rfl; have d3 := r_d.cell (i := 3) rfl; have d4 := r_d.cell (i := 4) rfl
        clear r_d
        go_wp2_with fail
        refine (slacks_calls _ _ _ _ _ _ _ _ _ _ _ _ _ _ _ _ P (HI3.out.later HL20.out) HP.out _ x (HX3.out.later ERaw.later HL20.out) HXC.out).mono ?_
        rintro e w40 ⟨v40, rfl, o40, b40⟩
        have hyr := o40.rats
        obtain ⟨A40, n40, c40, rfl, hn40, -⟩ := hyr.form
        have HY := hide hyr; have HN40 := hide hn40
        have HYR : Hid (Rats (ERaw 100) w40 (.slice A40 n40 c40) (slackL P x)) := hide (hyr.map fun v q hq he => OwnR.raw (B := 0) he (HSS.out q hq))
        have HV2 := hide (HVV20.out.later b40); have RS2 := hide (RS20.out.later b40); have RA2 := hide (RA20.out.later b40); have HLa := hide (HL20.out.trans b40)
        have hn22 := HV2.out.c.len_; have hn20 := HV2.out.a.len9; have hn21 := HV2.out.b.len_
        have HN20 := hide hn20; have HN21 := hide hn21
        have t2 : ((n40 : Int) == (n22 : Int)) = true := by have e : n40 = n22 := by { rw [hn40, hn22, stdC_len, HYL.out] }; rw [e]; simp
        have hn40b : n40 ≤ 100 := by rw [hn40, HYL.out]; have := HP.out.n24; have := extraL_len_le HP.out; omega
        have hn20b : n20 ≤ 100 := by rw [hn20, stdA_len]; have := HP.out.rl; have := endsL_len_le HP.out; omega
        have s2 := RS2.out.cell (i := 2) rfl
        clear hyr o40 b40 hn40 hn20 hn21 hn22 HVV20 RS20 RA20 d0 d1 d2 d3 d4
        go_wp2_with fail
        clear s2 t2
        go_loopw [9, 10] (fun fv i wr => ∃ j : Nat, j ≤ n40 ∧ i = .int .i64 (j : Int) ∧ ∃ u : Bool, ((slackL P x).take j).all (fun v => decide (0 ≤ v)) = u ∧ fv = .bool u ∧ Later w40 wr) (fun _ i _ => (n40 - intOf i).toNat)
        case atStart => exact ⟨0, by omega, rfl, true, rfl, rfl, Later.refl _⟩
        case round =>
          obtain ⟨j, hj, rfl, u, hF, rfl, hL⟩ := hrel
          have HF := hide hF; have HL := hide hL
          clear hF hL
          by_cases hjn : j < n40
          · cases u with
            | true =>
              obtain ⟨yq, hyq⟩ : ∃ q, (slackL P x)[j]? = some q := ⟨(slackL P x)[j]'(by have := HN40.out; omega), List.getElem?_eq_getElem _⟩
              obtain ⟨b4, off4, ys, yA, yn, yc, ys', yA', yn', yc', ey, y1, y2, y3, y4, yE⟩ := (HY.out.later EOwn.later HL.out).at_ hyq
              subst ey
              have HYE : Hid (RawR wr (.agg #[.bool ys, .slice yA yn yc, .bool ys', .slice yA' yn' yc']) yq 100) := hide (OwnR.raw (show OwnR wr 0 (.agg #[.bool ys, .slice yA yn yc, .bool ys', .slice yA' yn' yc']) yq from yE) (HSS.out yq (List.mem_of_getElem? hyq)))
              obtain ⟨z, hz⟩ : ∃ z, cmpQ yq 0 = z := ⟨_, rfl⟩
              have HZ := hide hz
              obtain ⟨u9, t9⟩ : ∃ u9, decide (0 ≤ z) = u9 := ⟨_, rfl⟩
              have hj0 : (0 : Int) ≤ (j : Int) := by omega
              have hj1 : (j : Int) < n40 := by omega
              have HN : Hid (((slackL P x).take (j+1)).all (fun v => decide (0 ≤ v)) = u9) := hide (by
                rw [all_take_succ hyq, HF.out, Bool.true_and, ← t9, ← hz]; exact decide_eq_decide.2 (cmpQ_ge yq).symm)
              have HT1 : Hid (∀ w', Later wr w' → w'.cell? ⟨b4, off4 + j * 4, none⟩ = some (.bool ys) ∧ w'.cell? ⟨b4, off4 + j * 4 + 1, none⟩ = some (.slice yA yn yc) ∧ w'.cell? ⟨b4, off4 + j * 4 + 2, none⟩ = some (.bool ys') ∧ w'.cell? ⟨b4, off4 + j * 4 + 3, none⟩ = some (.slice yA' yn' yc')) := hide fun w' hb => ⟨Later.cell hb y1, Later.cell hb y2, Later.cell hb y3, Later.cell hb y4⟩
              clear hyq hz yE y1 y2 y3 y4
              go_upto_region 11 with fail
              have hmx : Tryz.prog.follows .mixedOrders = true := by kernel_rfl
              refine wp_region_N (fun w' => w'.cell? ⟨b4, off4 + j * 4, none⟩ = some (.bool ys) ∧ w'.cell? ⟨b4, off4 + j * 4 + 1, none⟩ = some (.slice yA yn yc) ∧ w'.cell? ⟨b4, off4 + j * 4 + 2, none⟩ = some (.bool ys') ∧ w'.cell? ⟨b4, off4 + j * 4 + 3, none⟩ = some (.slice yA' yn' yc')) [] hmx (HT1.out _ lt_) (fun hHeld => ?_)
              refine tkB 65 0 ?_
              refine tkB 66 1 ?_
              refine tkB 67 2 ?_
              refine tkB 68 3 ?_
              refine tkB 69 4 ?_
              refine tkB 70 5 ?_
              refine wpAnyN_ready (rs := [6]) (by kernel_rfl) (by simp) ?_
              refine AllReadyN.held rfl (by rfl) (fun K hK => ?_) AllReadyN.nil
              go_simp
              refine (of11_calls _ 0 (by omega) (by omega) 0 div_0).mono ?_
              rintro e w41 ⟨v41, rfl, o41, b41⟩
              obtain ⟨s41, P41, q41, e41, P41', q41', e41', rfl, o41⟩ := o41.open_; have O41 := hide o41; clear o41
              have l41 : Later wr w41 := Later.trans lt_ b41
              refine hK.out _ _ ?_ (fun hHeld => ?_)
              · exact HT1.out _ lt_
              clear hK K
              try simp only [Act.put, List.setIfInBounds_toArray, List.set_cons_zero, List.set_cons_succ]
              refine wpAnyN_ready (rs := [7]) (by kernel_rfl) (by simp) ?_
              refine AllReadyN.held rfl (by rfl) (fun K hK => ?_) AllReadyN.nil
              go_simp
              refine (qcmp_calls _ _ _ yq 0 100 1 (RawR.later HYE.out lt_) (OwnR.raw (OwnR.later O41.out lt_) sized_0) (by omega)).mono ?_
              rintro e w42 ⟨rfl, b42⟩
              rw [HZ.out]
              have l42 : Later wr w42 := Later.trans lt_ b42
              refine hK.out _ _ ?_ (fun hHeld => ?_)
              · exact HT1.out _ lt_
              clear hK K
              try simp only [Act.put, List.setIfInBounds_toArray, List.set_cons_zero, List.set_cons_succ]
              refine tkB 73 8 ?_
              refine tkB 74 9 ?_
              refine tkB 9 10 ?_
              refine wpAnyN_done (by kernel_rfl) ?_ _
              have HLE := hide (HL.out.trans l42)
              clear hHeld
              go_wp2_with fail
              exact ⟨⟨j+1, by omega, by go_num, u9, HN.out, rfl, HLE.out⟩, by simp [intOf]; omega⟩
            | false =>
              have hj0 : (0 : Int) ≤ (j : Int) := by omega
              have hj1 : (j : Int) < n40 := by omega
              obtain ⟨yq, hyq⟩ : ∃ q, (slackL P x)[j]? = some q := ⟨(slackL P x)[j]'(by have := HN40.out; omega), List.getElem?_eq_getElem _⟩
              have HN : Hid (((slackL P x).take (j+1)).all (fun v => decide (0 ≤ v)) = false) := hide (by
                rw [all_take_succ hyq, HF.out]; rfl)
              clear hyq
              go_upto_region 11 with fail
              have hmx : Tryz.prog.follows .mixedOrders = true := by kernel_rfl
              refine wp_region_N (fun _ => True) [] hmx trivial (fun hHeld => ?_)
              refine tkB 65 0 ?_
              refine tkB 66 1 ?_
              refine tkU 67 2 ?_
              try simp only [Act.put, List.setIfInBounds_toArray, List.set_cons_zero, List.set_cons_succ]
              refine tkU 68 3 ?_
              try simp only [Act.put, List.setIfInBounds_toArray, List.set_cons_zero, List.set_cons_succ]
              refine tkU 69 4 ?_
              try simp only [Act.put, List.setIfInBounds_toArray, List.set_cons_zero, List.set_cons_succ]
              refine tkU 70 5 ?_
              try simp only [Act.put, List.setIfInBounds_toArray, List.set_cons_zero, List.set_cons_succ]
              refine tkU 71 6 ?_
              try simp only [Act.put, List.setIfInBounds_toArray, List.set_cons_zero, List.set_cons_succ]
              refine tkU 72 7 ?_
              try simp only [Act.put, List.setIfInBounds_toArray, List.set_cons_zero, List.set_cons_succ]
              refine tkU 73 8 ?_
              try simp only [Act.put, List.setIfInBounds_toArray, List.set_cons_zero, List.set_cons_succ]
              refine tkB 74 9 ?_
              refine tkB 9 10 ?_
              refine wpAnyN_done (by kernel_rfl) ?_ _
              clear hHeld
              go_wp2_with fail
              exact ⟨⟨j+1, by omega, by go_num, false, HN.out, rfl, HL.out.drew⟩, by simp [intOf]; omega⟩
          · have hj1 : ¬ (j : Int) < n40 := by omega
            obtain ⟨F1, rfl⟩ : ∃ F1, F1 = u := ⟨u, rfl⟩
            have hF1 : (slackL P x).all (fun v => decide (0 ≤ v)) = F1 := by rw [← HF.out, List.take_of_length_le (by have := HN40.out; omega)]
            have HF1 := hide hF1
            have HLb := HL
            clear hF1 HF HL
            go_wp2_with fail
            go_loopw [9, 11] (fun fv i wr => ∃ j : Nat, j ≤ n20 ∧ i = .int .i64 (j : Int) ∧ ∃ b : Bool, fv = .bool b ∧ Hid (b = true ↔ (F1 = true ∧ ∀ i, i < j → dotL ((stdA P).getD i []) (slackL P x) = (stdB P).getD i 0)) ∧ Later w40 wr) (fun _ i _ => (n20 - intOf i).toNat)
            case atStart => exact ⟨0, by omega, rfl, F1, rfl, hide ⟨fun h => ⟨h, fun i hi => by omega⟩, fun h => h.1⟩, HLb.out⟩
            case round =>
              obtain ⟨j, hj, rfl, b, rfl, HF, hL⟩ := hrel
              have HL := hide hL
              have hk := keeps_iff HP.out HXC.out
              have hfl : F1 = true ↔ ∀ v ∈ slackL P x, 0 ≤ v := by rw [← HF1.out, List.all_eq_true]; simp only [decide_eq_true_eq]
              have rs9 := RS2.out.later HL.out
              have s0 := rs9.cell (i := 0) rfl
              clear hL rs9
              by_cases hjn : j < n20
              · cases b with
                | true =>
                  clear hk hfl
                  obtain ⟨row, hrow⟩ : ∃ r, (stdA P)[j]? = some r := ⟨(stdA P)[j]'(by have := HN20.out; omega), List.getElem?_eq_getElem _⟩
                  obtain ⟨bq, hbq⟩ : ∃ q, (stdB P)[j]? = some q := ⟨(stdB P)[j]'(by have := HN20.out; rw [stdB_len]; rw [stdA_len] at this; omega), List.getElem?_eq_getElem _⟩
                  have hv := HV2.out.later HL.out
                  obtain ⟨b3, off3, A3r, n3r, c3r, ea, x1, hrw⟩ := hv.a.at_ hrow
                  subst ea
                  obtain ⟨b5, off5, zs, zA, zn, zc, zs', zA', zn', zc', ez, z1, z2, z3, z4, zE⟩ := hv.b.at_ hbq
                  subst ez
                  have HRW := hide hrw
                  have hrl := stdA_rows HP.out row (List.mem_of_getElem? hrow)
                  have hrz := HSA.out row (List.mem_of_getElem? hrow)
                  have HRL := hide hrl; have HRZ := hide hrz
                  have HZB : Hid (OwnR wr 0 (.agg #[.bool zs, .slice zA zn zc, .bool zs', .slice zA' zn' zc']) bq) := hide zE
                  have HSB1 : Hid (Sized bq 200) := hide (HSB.out bq (List.mem_of_getElem? hbq))
                  have HSD : Hid (Sized (dotL row (slackL P x)) 30000) := hide ((sized_dotL hrz HSS.out).mono (by
                    have h9 : row.length * (200 + 100 + 1) ≤ 72 * 301 := Nat.mul_le_mul (by have := std_lens HP.out; exact this.2.1 row (List.mem_of_getElem? hrow)) (by omega)
                    omega))
                  have HEQ : Hid ((stdA P).getD j [] = row ∧ (stdB P).getD j 0 = bq) := hide ⟨by rw [List.getD_eq_getElem?_getD, hrow]; rfl, by rw [List.getD_eq_getElem?_getD, hbq]; rfl⟩
                  have hj0 : (0 : Int) ≤ (j : Int) := by omega
                  have hj1 : (j : Int) < n20 := by omega
                  have hj2 : j < n21 := by have h1 := HN20.out; have h2 := HN21.out; rw [stdA_len] at h1; rw [stdB_len] at h2; omega
                  have rs0 := RS2.out.later HL.out
                  have s0 := rs0.cell (i := 0) rfl
                  obtain ⟨z, hz⟩ : ∃ z, cmpQ (dotL row (slackL P x)) bq = z := ⟨_, rfl⟩
                  have HZ := hide hz
                  obtain ⟨u9, t9⟩ : ∃ u9, (z == 0) = u9 := ⟨_, rfl⟩
                  have HN : Hid (u9 = true ↔ dotL row (slackL P x) = bq) := hide (by rw [← t9, beq_iff_eq, ← hz]; exact cmpQ_is _ _)
                  clear hrow hbq hv hrw hrl hrz hz zE rs0
                  go_wp2_with fail
                  refine (qdot_calls _ _ _ row (slackL P x) 200 100 (HRW.out.map fun v q hq he => OwnR.raw (B := 0) he (HRZ.out q hq)) (HYR.out.later ERaw.later HL.out) (by rw [HRL.out, HYL.out]) (by have := Nat.mul_le_mul (show row.length + 1 ≤ 73 by rw [HRL.out]; have := HP.out.n24; have := extraL_len_le HP.out; omega) (Nat.le_refl (200 + 100 + 4)); omega)).mono ?_
                  rintro e w60 ⟨v60, ok60, rfl, ⟨o60, rfl⟩, b60⟩
                  obtain ⟨s60, P60, q60, e60, P60', q60', e60', rfl, o60⟩ := o60.open_; have O60 := hide o60; clear o60
                  go_upto_region 16 with fail
                  obtain ⟨wd, hwd⟩ : ∃ wd, wd = w60.alloc (Obj.cells #[Value.bool s60, Value.slice P60 q60 e60, Value.bool false, Value.slice P60' q60' e60'] 36) := ⟨_, rfl⟩
                  obtain ⟨gd, hgd⟩ : ∃ gd, gd = w60.heap.size := ⟨_, rfl⟩
                  have bwd : Later w60 wd := by rw [hwd]; exact (Later.refl _).alloc _
                  have rgd : Row wd gd 36 [.bool s60, .slice P60 q60 e60, .bool false, .slice P60' q60' e60'] := by rw [hwd, hgd]; exact Row.new _ _ _
                  rw [← hwd, ← hgd]
                  have hbd := b60.trans bwd
                  have OD := hide (OwnR.later O60.out bwd); have RD := hide rgd; have HLD := hide (HL.out.trans hbd)
                  have HZE : Hid (RawR wd (.agg #[.bool zs, .slice zA zn zc, .bool zs', .slice zA' zn' zc']) bq 200) := hide (RawR.later (OwnR.raw HZB.out HSB1.out) hbd)
                  have rs1 := RS2.out.later HLD.out
                  have q1 := Later.cell hbd z1; have q2 := Later.cell hbd z2; have q3 := Later.cell hbd z3; have q4 := Later.cell hbd z4
                  have HT1 : Hid (∀ w', Later wd w' → w'.cell? ⟨gd, 0, none⟩ = some (.bool s60) ∧ w'.cell? ⟨gd, 1, none⟩ = some (.slice P60 q60 e60) ∧ w'.cell? ⟨gd, 2, none⟩ = some (.bool false) ∧ w'.cell? ⟨gd, 3, none⟩ = some (.slice P60' q60' e60') ∧ w'.cell? ⟨gs, 1, none⟩ = some (.slice (some ⟨b5, off5, none⟩) n21 c21) ∧ w'.cell? ⟨b5, off5 + j * 4, none⟩ = some (.bool zs) ∧ w'.cell? ⟨b5, off5 + j * 4 + 1, none⟩ = some (.slice zA zn zc) ∧ w'.cell? ⟨b5, off5 + j * 4 + 2, none⟩ = some (.bool zs') ∧ w'.cell? ⟨b5, off5 + j * 4 + 3, none⟩ = some (.slice zA' zn' zc')) := hide fun w' hb => ⟨(RD.out.later hb).cell rfl, (RD.out.later hb).cell rfl, (RD.out.later hb).cell rfl, (RD.out.later hb).cell rfl, (rs1.later hb).cell rfl, Later.cell hb q1, Later.cell hb q2, Later.cell hb q3, Later.cell hb q4⟩
                  clear hwd hgd bwd b60 O60 rgd hbd rs1 q1 q2 q3 q4 z1 z2 z3 z4 x1 s0 HZB
                  have hmx : Tryz.prog.follows .mixedOrders = true := by kernel_rfl
                  refine wp_region_N (fun w' => w'.cell? ⟨gd, 0, none⟩ = some (.bool s60) ∧ w'.cell? ⟨gd, 1, none⟩ = some (.slice P60 q60 e60) ∧ w'.cell? ⟨gd, 2, none⟩ = some (.bool false) ∧ w'.cell? ⟨gd, 3, none⟩ = some (.slice P60' q60' e60') ∧ w'.cell? ⟨gs, 1, none⟩ = some (.slice (some ⟨b5, off5, none⟩) n21 c21) ∧ w'.cell? ⟨b5, off5 + j * 4, none⟩ = some (.bool zs) ∧ w'.cell? ⟨b5, off5 + j * 4 + 1, none⟩ = some (.slice zA zn zc) ∧ w'.cell? ⟨b5, off5 + j * 4 + 2, none⟩ = some (.bool zs') ∧ w'.cell? ⟨b5, off5 + j * 4 + 3, none⟩ = some (.slice zA' zn' zc')) [] hmx (HT1.out _ lt_) (fun hHeld => ?_)
                  refine tkB 95 0 ?_
                  refine tkB 96 1 ?_
                  refine tkB 97 2 ?_
                  refine tkB 98 3 ?_
                  refine tkB 99 4 ?_
                  refine tkB 100 5 ?_
                  refine wpAnyN_ready (rs := [6]) (by kernel_rfl) (by simp) ?_
                  refine AllReadyN.held rfl (by rfl) (fun K hK => ?_) AllReadyN.nil
                  go_simp
                  refine (qcmp_calls _ _ _ (dotL row (slackL P x)) bq 30000 200 (OwnR.raw (OwnR.later OD.out lt_) HSD.out) (RawR.later HZE.out lt_) (by omega)).mono ?_
                  rintro e w62 ⟨rfl, b62⟩
                  rw [HZ.out]
                  have l62 : Later wd w62 := Later.trans lt_ b62
                  refine hK.out _ _ ?_ (fun hHeld => ?_)
                  · exact HT1.out _ lt_
                  clear hK K
                  try simp only [Act.put, List.setIfInBounds_toArray, List.set_cons_zero, List.set_cons_succ]
                  refine tkB 102 7 ?_
                  refine tkB 9 8 ?_
                  refine wpAnyN_done (by kernel_rfl) ?_ _
                  have HLE := hide (HLD.out.trans l62)
                  have HFN : Hid (u9 = true ↔ (F1 = true ∧ ∀ i, i < j + 1 → dotL ((stdA P).getD i []) (slackL P x) = (stdB P).getD i 0)) := hide (by
                    constructor
                    · intro hu
                      refine ⟨(HF.out.1 (by trivial)).1, fun i hi => ?_⟩
                      by_cases hij : i < j
                      · exact (HF.out.1 (by trivial)).2 i hij
                      · have e : i = j := by omega
                        rw [e, HEQ.out.1, HEQ.out.2]; exact HN.out.1 hu
                    · intro h2
                      have h3 := h2.2 j (by omega)
                      rw [HEQ.out.1, HEQ.out.2] at h3; exact HN.out.2 h3)
                  clear hHeld
                  go_wp2_with fail
                  exact ⟨⟨j+1, by omega, by go_num, u9, rfl, HFN, HLE.out⟩, by simp [intOf]; omega⟩
                | false =>
                  have HBF : Hid (fulfL P x = false) := hide (by
                    rw [Bool.eq_false_iff]; intro h9
                    have h8 := hk.2 h9
                    have h7 := HF.out.2 ⟨hfl.2 h8.1, fun i hi => h8.2 i (by have := HN20.out; omega)⟩
                    cases h7)
                  clear hk hfl
                  have hj0 : (0 : Int) ≤ (j : Int) := by omega
                  have hj1 : (j : Int) < n20 := by omega
                  have HLp := hide (HLa.out.trans HL.out); have HLq := HL
                  have r_d := R0.out.later (HL3.out.trans HLp.out)
                  have d0 := r_d.cell (i := 0) rfl; have d1 := r_d.cell (i := 1) rfl; have d2 := r_d.cell (i := 2) rfl; have d3 := r_d.cell (i := 3) rfl; have d4 := r_d.cell (i := 4) rfl
                  clear r_d
                  go_wp2_with fail
                  refine (pfulfils_calls _ _ _ _ _ _ _ _ _ _ _ _ _ _ _ _ 1 P (HI3.out.later HLp.out) _ x 1 (HX3.out.later ERaw.later HLp.out) (by omega)).mono ?_
                  rintro e w49 ⟨rfl, b49⟩
                  rw [HBF.out]
                  have HLp0 := HLp; have HLq0 := HLq
                  have HLp := hide (HLp0.out.trans b49); have HLq := hide (HLq0.out.trans b49)
                  clear b49 HLp0 HLq0 d0 d1 d2 d3 d4 HL s0
                  have r_d := R0.out.later (HL3.out.trans HLp.out)
                  have d0 := r_d.cell (i := 0) rfl; have d1 := r_d.cell (i := 1) rfl; have d2 := r_d.cell (i := 2) rfl; have d3 := r_d.cell (i := 3) rfl; have d4 := r_d.cell (i := 4) rfl
                  clear r_d
                  go_wp2_with fail
                  go_ret
                  exact ⟨rfl, B0.out.trans (HL3.out.trans HLp.out)⟩
              · have HBF : Hid (fulfL P x = b) := hide (by
                  have hj9 : j = (stdA P).length := by have := HN20.out; omega
                  rw [Bool.eq_iff_iff, HF.out, ← hk, hfl, hj9])
                have hj1 : ¬ (j : Int) < n20 := by omega
                clear hk hfl
                have HLp := hide (HLa.out.trans HL.out); have HLq := HL
                have r_d := R0.out.later (HL3.out.trans HLp.out)
                have d0 := r_d.cell (i := 0) rfl; have d1 := r_d.cell (i := 1) rfl; have d2 := r_d.cell (i := 2) rfl; have d3 := r_d.cell (i := 3) rfl; have d4 := r_d.cell (i := 4) rfl
                clear r_d
                go_wp2_with fail
                refine (pfulfils_calls _ _ _ _ _ _ _ _ _ _ _ _ _ _ _ _ 1 P (HI3.out.later HLp.out) _ x 1 (HX3.out.later ERaw.later HLp.out) (by omega)).mono ?_
                rintro e w49 ⟨rfl, b49⟩
                rw [HBF.out]
                have HLp0 := HLp; have HLq0 := HLq
                have HLp := hide (HLp0.out.trans b49); have HLq := hide (HLq0.out.trans b49)
                clear b49 HLp0 HLq0 d0 d1 d2 d3 d4 HL s0
                have r_d := R0.out.later (HL3.out.trans HLp.out)
                have d0 := r_d.cell (i := 0) rfl; have d1 := r_d.cell (i := 1) rfl; have d2 := r_d.cell (i := 2) rfl; have d3 := r_d.cell (i := 3) rfl; have d4 := r_d.cell (i := 4) rfl
                clear r_d
                cases b with
                | false =>
                  go_wp2_with fail
                  go_ret
                  exact ⟨rfl, B0.out.trans (HL3.out.trans HLp.out)⟩
                | true =>
                  have hBOK : backB P (slackL P x) = true := by unfold backB; rw [HU.out, HYL.out]; simp
                  have HBOK := hide hBOK
                  clear hBOK
                  go_wp2_with fail
                  refine (pback_calls _ _ _ _ _ _ _ _ _ _ _ _ _ _ _ _ 1 P (HI3.out.later HLp.out) _ (slackL P x) 100 (HYR.out.later ERaw.later HLq.out) (by omega) (by rw [HYL.out]; have := HP.out.n24; have := extraL_len_le HP.out; omega)).mono ?_
                  rintro e w50 ⟨v50, rfl, hb50, -, b50⟩
                  have hb50 := hb50 HBOK.out
                  rw [keeps_back HP.out HXC.out] at hb50
                  rw [show (if backB P (slackL P x) then (0 : Int) else 1) = 0 by rw [HBOK.out]; rfl]
                  have hbn := OwnRats.now_ hb50
                  obtain ⟨A50, n50, c50, rfl, hn50, -⟩ := hbn.form
                  have HB50 := hide hb50; have HN50 := hide hn50
                  have HLr := hide (HLp.out.trans b50)
                  clear hb50 hbn hn50 d0 d1 d2 d3 d4
                  have r_d := R0.out.later (HL3.out.trans HLr.out)
                  have d0 := r_d.cell (i := 0) rfl; have d1 := r_d.cell (i := 1) rfl; have d2 := r_d.cell (i := 2) rfl; have d3 := r_d.cell (i := 3) rfl; have d4 := r_d.cell (i := 4) rfl
                  clear r_d
                  go_wp2_with fail
                  refine (pcost_calls _ _ _ _ _ _ _ _ _ _ _ _ _ _ _ _ 1 P (HI3.out.later HLr.out) _ x 1 (HX3.out.later ERaw.later HLr.out) (by omega)).mono ?_
                  rintro e w70 ⟨v70, ok70, rfl, ⟨o70, rfl⟩, b70⟩
                  rw [lpCost_dot_ HP.out HXC.out] at o70
                  obtain ⟨s70, P70, q70, e70, P70', q70', e70', rfl, o70⟩ := o70.open_; have O70 := hide o70; clear o70
                  go_upto_region 23 with fail
                  obtain ⟨wc, hwc⟩ : ∃ wc, wc = w70.alloc (Obj.cells #[Value.bool s70, Value.slice P70 q70 e70, Value.bool false, Value.slice P70' q70' e70'] 36) := ⟨_, rfl⟩
                  obtain ⟨gc, hgc⟩ : ∃ gc, gc = w70.heap.size := ⟨_, rfl⟩
                  have bwc : Later w70 wc := by rw [hwc]; exact (Later.refl _).alloc _
                  have rgc : Row wc gc 36 [.bool s70, .slice P70 q70 e70, .bool false, .slice P70' q70' e70'] := by rw [hwc, hgc]; exact Row.new _ _ _
                  rw [← hwc, ← hgc]
                  have hb71 := b70.trans bwc
                  have OC0 := hide (OwnR.later O70.out bwc); have RC0 := hide rgc; have HLs := hide (HLr.out.trans hb71); have HBK0 := hide (HB50.out.later hb71); have HLt := hide (HLq.out.trans (b50.trans hb71))
                  clear hwc hgc bwc rgc b70 b50 O70 hb71 d0 d1 d2 d3 d4 HB50
                  have rs3 := RS2.out.later HLt.out
                  have s2 := rs3.cell (i := 2) rfl
                  have hvc := HV2.out.later HLt.out
                  have HVC := hide hvc.c
                  clear rs3 hvc
                  go_wp2_with fail
                  refine (qdot_calls _ _ _ (stdC P) (slackL P x) 200 100 (HVC.out.map fun v q hq he => OwnR.raw (B := 0) he (HSC2.out q hq)) (HYR.out.later ERaw.later HLt.out) (by rw [stdC_len, HYL.out]) (by have := Nat.mul_le_mul (show (stdC P).length + 1 ≤ 73 by rw [stdC_len]; have := HP.out.n24; have := extraL_len_le HP.out; omega) (Nat.le_refl (200 + 100 + 4)); omega)).mono ?_
                  rintro e w75 ⟨v75, ok75, rfl, ⟨o75, rfl⟩, b75⟩
                  obtain ⟨s75, P75, q75, e75, P75', q75', e75', rfl, o75⟩ := o75.open_; have O75 := hide o75; clear o75
                  clear s2
                  go_upto_region 25 with fail
                  obtain ⟨we, hwe⟩ : ∃ we, we = w75.alloc (Obj.cells #[Value.bool s75, Value.slice P75 q75 e75, Value.bool false, Value.slice P75' q75' e75'] 36) := ⟨_, rfl⟩
                  obtain ⟨ge, hge⟩ : ∃ ge, ge = w75.heap.size := ⟨_, rfl⟩
                  have bwe : Later w75 we := by rw [hwe]; exact (Later.refl _).alloc _
                  have rge : Row we ge 36 [.bool s75, .slice P75 q75 e75, .bool false, .slice P75' q75' e75'] := by rw [hwe, hge]; exact Row.new _ _ _
                  rw [← hwe, ← hge]
                  have hb76 := b75.trans bwe
                  have OE := hide (OwnR.later O75.out bwe); have RE := hide rge; have OC := hide (OwnR.later OC0.out hb76); have RC := hide (RC0.out.later hb76); have HBK := hide (HBK0.out.later hb76)
                  have HL3w := hide (HL3.out.trans (HLs.out.trans hb76)); have HL3x := hide (HLs.out.trans hb76); have HL2x := hide (HLt.out.trans hb76)
                  have ORP := hide (HV2.out.later HL2x.out).r
                  have HSE : Hid (Sized (dotL (stdC P) (slackL P x)) 30000) := hide ((sized_dotL HSC2.out HSS.out).mono (by
                    have h9 : (stdC P).length * (200 + 100 + 1) ≤ 72 * 301 := Nat.mul_le_mul ((std_lens HP.out).2.2.2) (by omega)
                    omega))
                  have HSC : Hid (Sized (dotL P.cost x) 100) := hide ((sized_dotL (Rats.sized HI3.out.cost) (Rats.sized HX3.out)).mono (by
                    have : P.cost.length * (1 + 1 + (1 + 1) + 1) ≤ 4 * 5 := Nat.mul_le_mul (by omega) (by omega)
                    omega))
                  have HSF : Hid (Sized (dotL (stdC P) (slackL P x) + restV P) 40000) := hide ((HSE.out.add HSR.out).mono (by omega))
                  have HCMP : Hid (cmpQ (dotL P.cost x) (dotL (stdC P) (slackL P x) + restV P) = 0) := hide (by rw [← keeps_cost HP.out HXC.out]; unfold cmpQ; simp)
                  have hn50 : n50 ≤ 4 := by have := HN50.out; have := HXC.out; omega
                  clear hwe hge bwe rge b75 O75 hb76 OC0 RC0 HBK0 HLs HLt HVC
                  go_wp2_with fail
                  go_loopw [20] (fun i wr => ∃ j : Nat, j ≤ n50 ∧ i = .int .i64 (j : Int) ∧ Later we wr) (fun i _ => (n50 - intOf i).toNat)
                  case atStart => exact ⟨0, by omega, rfl, Later.refl _⟩
                  case round =>
                    obtain ⟨j, hj, rfl, hL⟩ := hrel
                    have HL := hide hL
                    clear hL
                    by_cases hjn : j < n50
                    · skip
                      obtain ⟨xq, hxq⟩ : ∃ q, x[j]? = some q := ⟨x[j]'(by have := HN50.out; omega), List.getElem?_eq_getElem _⟩
                      have hbk := HBK.out.later HL.out
                      obtain ⟨b6, off6, ms, mA, mn, mc, ms', mA', mn', mc', em, m1, m2, m3, m4, mE⟩ := (OwnRats.now_ hbk).at_ hxq
                      subst em
                      obtain ⟨b7, off7, ns, nA, nn, nc, ns', nA', nn', nc', en, n1_, n2_, n3_, n4_, nE⟩ := (HX3.out.later ERaw.later (HL3x.out.trans HL.out)).at_ hxq
                      subst en
                      have HM : Hid (RawR wr (.agg #[.bool ms, .slice mA mn mc, .bool ms', .slice mA' mn' mc']) xq 100) := hide (OwnR.raw (show OwnR wr 0 (.agg #[.bool ms, .slice mA mn mc, .bool ms', .slice mA' mn' mc']) xq from mE) (((Rats.sized HX3.out) xq (List.mem_of_getElem? hxq)).mono (by omega)))
                      have HNE : Hid (RawR wr (.agg #[.bool ns, .slice nA nn nc, .bool ns', .slice nA' nn' nc']) xq 100) := hide (RawR.mono (show RawR wr (.agg #[.bool ns, .slice nA nn nc, .bool ns', .slice nA' nn' nc']) xq 1 from nE) (by omega))
                      have HZ : Hid (cmpQ xq xq = 0) := hide (by unfold cmpQ; simp)
                      have hj0 : (0 : Int) ≤ (j : Int) := by omega
                      have hj1 : (j : Int) < n50 := by omega
                      have hj2 : j < nx := by have := HN50.out; have := HNX.out; omega
                      have HT1 : Hid (∀ w', Later wr w' → w'.cell? ⟨b6, off6 + j * 4, none⟩ = some (.bool ms) ∧ w'.cell? ⟨b6, off6 + j * 4 + 1, none⟩ = some (.slice mA mn mc) ∧ w'.cell? ⟨b6, off6 + j * 4 + 2, none⟩ = some (.bool ms') ∧ w'.cell? ⟨b6, off6 + j * 4 + 3, none⟩ = some (.slice mA' mn' mc') ∧ w'.cell? ⟨b7, off7 + j * 4, none⟩ = some (.bool ns) ∧ w'.cell? ⟨b7, off7 + j * 4 + 1, none⟩ = some (.slice nA nn nc) ∧ w'.cell? ⟨b7, off7 + j * 4 + 2, none⟩ = some (.bool ns') ∧ w'.cell? ⟨b7, off7 + j * 4 + 3, none⟩ = some (.slice nA' nn' nc')) := hide fun w' hb => ⟨Later.cell hb m1, Later.cell hb m2, Later.cell hb m3, Later.cell hb m4, Later.cell hb n1_, Later.cell hb n2_, Later.cell hb n3_, Later.cell hb n4_⟩
                      clear hxq mE nE m1 m2 m3 m4 n1_ n2_ n3_ n4_ hbk
                      go_upto_region 27 with fail
                      have hmx : Tryz.prog.follows .mixedOrders = true := by kernel_rfl
                      refine wp_region_N (fun w' => w'.cell? ⟨b6, off6 + j * 4, none⟩ = some (.bool ms) ∧ w'.cell? ⟨b6, off6 + j * 4 + 1, none⟩ = some (.slice mA mn mc) ∧ w'.cell? ⟨b6, off6 + j * 4 + 2, none⟩ = some (.bool ms') ∧ w'.cell? ⟨b6, off6 + j * 4 + 3, none⟩ = some (.slice mA' mn' mc') ∧ w'.cell? ⟨b7, off7 + j * 4, none⟩ = some (.bool ns) ∧ w'.cell? ⟨b7, off7 + j * 4 + 1, none⟩ = some (.slice nA nn nc) ∧ w'.cell? ⟨b7, off7 + j * 4 + 2, none⟩ = some (.bool ns') ∧ w'.cell? ⟨b7, off7 + j * 4 + 3, none⟩ = some (.slice nA' nn' nc')) [] hmx (HT1.out _ lt_) (fun hHeld => ?_)
                      refine tkB 139 0 ?_
                      refine tkB 140 1 ?_
                      refine tkB 141 2 ?_
                      refine tkB 142 3 ?_
                      refine tkB 143 4 ?_
                      refine tkB 144 5 ?_
                      refine tkB 145 6 ?_
                      refine tkB 146 7 ?_
                      refine wpAnyN_ready (rs := [8]) (by kernel_rfl) (by simp) ?_
                      refine AllReadyN.held rfl (by rfl) (fun K hK => ?_) AllReadyN.nil
                      go_simp
                      refine (qcmp_calls _ _ _ xq xq 100 100 (RawR.later HM.out lt_) (RawR.later HNE.out lt_) (by omega)).mono ?_
                      rintro e w80 ⟨rfl, b80⟩
                      rw [HZ.out]
                      have l80 : Later wr w80 := Later.trans lt_ b80
                      refine hK.out _ _ ?_ (fun hHeld => ?_)
                      · exact HT1.out _ lt_
                      clear hK K
                      try simp only [Act.put, List.setIfInBounds_toArray, List.set_cons_zero, List.set_cons_succ]
                      refine tkB 148 9 ?_
                      refine wpAnyN_done (by kernel_rfl) ?_ _
                      have HLE := hide (HL.out.trans l80)
                      clear hHeld
                      go_wp2_with fail
                      exact ⟨⟨j+1, by omega, by go_num, HLE.out⟩, by simp [intOf]; omega⟩
                    · have hj1 : ¬ (j : Int) < n50 := by omega
                      have e5 : n50 = nx := by have := HN50.out; have := HNX.out; omega
                      have t5 : ((n50 : Int) == (nx : Int)) = true := by rw [e5]; simp
                      have rc := RC.out.later HL.out; have re := RE.out.later HL.out; have ra := RA2.out.later (HL2x.out.trans HL.out)
                      have HT1 : Hid (∀ w', Later wr w' → w'.cell? ⟨gc, 0, none⟩ = some (.bool s70) ∧ w'.cell? ⟨gc, 1, none⟩ = some (.slice P70 q70 e70) ∧ w'.cell? ⟨gc, 2, none⟩ = some (.bool false) ∧ w'.cell? ⟨gc, 3, none⟩ = some (.slice P70' q70' e70') ∧ w'.cell? ⟨ge, 0, none⟩ = some (.bool s75) ∧ w'.cell? ⟨ge, 1, none⟩ = some (.slice P75 q75 e75) ∧ w'.cell? ⟨ge, 2, none⟩ = some (.bool false) ∧ w'.cell? ⟨ge, 3, none⟩ = some (.slice P75' q75' e75') ∧ w'.cell? ⟨gs + 1, 0, none⟩ = some (.bool s20) ∧ w'.cell? ⟨gs + 1, 1, none⟩ = some (.slice P20 q20 e20) ∧ w'.cell? ⟨gs + 1, 2, none⟩ = some (.bool false) ∧ w'.cell? ⟨gs + 1, 3, none⟩ = some (.slice P20' q20' e20')) := hide fun w' hb => ⟨(rc.later hb).cell rfl, (rc.later hb).cell rfl, (rc.later hb).cell rfl, (rc.later hb).cell rfl, (re.later hb).cell rfl, (re.later hb).cell rfl, (re.later hb).cell rfl, (re.later hb).cell rfl, (ra.later hb).cell rfl, (ra.later hb).cell rfl, (ra.later hb).cell rfl, (ra.later hb).cell rfl⟩
                      clear rc re ra
                      go_upto_region 29 with fail
                      have hmx : Tryz.prog.follows .mixedOrders = true := by kernel_rfl
                      refine wp_region_N (fun w' => w'.cell? ⟨gc, 0, none⟩ = some (.bool s70) ∧ w'.cell? ⟨gc, 1, none⟩ = some (.slice P70 q70 e70) ∧ w'.cell? ⟨gc, 2, none⟩ = some (.bool false) ∧ w'.cell? ⟨gc, 3, none⟩ = some (.slice P70' q70' e70') ∧ w'.cell? ⟨ge, 0, none⟩ = some (.bool s75) ∧ w'.cell? ⟨ge, 1, none⟩ = some (.slice P75 q75 e75) ∧ w'.cell? ⟨ge, 2, none⟩ = some (.bool false) ∧ w'.cell? ⟨ge, 3, none⟩ = some (.slice P75' q75' e75') ∧ w'.cell? ⟨gs + 1, 0, none⟩ = some (.bool s20) ∧ w'.cell? ⟨gs + 1, 1, none⟩ = some (.slice P20 q20 e20) ∧ w'.cell? ⟨gs + 1, 2, none⟩ = some (.bool false) ∧ w'.cell? ⟨gs + 1, 3, none⟩ = some (.slice P20' q20' e20')) [] hmx (HT1.out _ lt_) (fun hHeld => ?_)
                      refine tkB 149 0 ?_
                      refine tkB 150 1 ?_
                      refine tkB 151 2 ?_
                      refine tkB 152 3 ?_
                      refine tkB 153 4 ?_
                      refine tkB 154 5 ?_
                      refine tkB 155 6 ?_
                      refine tkB 156 7 ?_
                      refine tkB 157 8 ?_
                      refine tkB 158 9 ?_
                      refine tkB 159 10 ?_
                      refine tkB 160 11 ?_
                      refine tkB 161 12 ?_
                      refine wpAnyN_ready (rs := [13]) (by kernel_rfl) (by simp) ?_
                      refine AllReadyN.held rfl (by rfl) (fun K hK => ?_) AllReadyN.nil
                      go_simp
                      refine (qadd_calls _ _ _ (dotL (stdC P) (slackL P x)) (restV P) 30000 100 (OwnR.raw (OwnR.later OE.out (HL.out.trans lt_)) HSE.out) (OwnR.raw (OwnR.later ORP.out (HL.out.trans lt_)) HSR.out) (by omega)).mono ?_
                      rintro e w90 ⟨v90, rfl, o90, b90⟩
                      obtain ⟨s90, P90, q90, e90, P90', q90', e90', rfl, o90⟩ := o90.open_; have O90 := hide o90; clear o90
                      have l90 : Later wr w90 := Later.trans lt_ b90
                      refine hK.out _ _ ?_ (fun hHeld => ?_)
                      · exact HT1.out _ lt_
                      clear hK K
                      try simp only [Act.put, List.setIfInBounds_toArray, List.set_cons_zero, List.set_cons_succ]
                      refine wpAnyN_ready (rs := [14]) (by kernel_rfl) (by simp) ?_
                      refine AllReadyN.held rfl (by rfl) (fun K hK => ?_) AllReadyN.nil
                      go_simp
                      refine (qcmp_calls _ _ _ (dotL P.cost x) (dotL (stdC P) (slackL P x) + restV P) 100 40000 (OwnR.raw (OwnR.later OC.out (HL.out.trans lt_)) HSC.out) (OwnR.raw (OwnR.later O90.out lt_) HSF.out) (by omega)).mono ?_
                      rintro e w91 ⟨rfl, b91⟩
                      rw [HCMP.out]
                      have l91 : Later wr w91 := Later.trans lt_ b91
                      refine hK.out _ _ ?_ (fun hHeld => ?_)
                      · exact HT1.out _ lt_
                      clear hK K
                      try simp only [Act.put, List.setIfInBounds_toArray, List.set_cons_zero, List.set_cons_succ]
                      refine tkB 164 15 ?_
                      refine tkB 165 16 ?_
                      refine tkB 4 17 ?_
                      refine wpAnyN_done (by kernel_rfl) ?_ _
                      have HLE := hide (HL3w.out.trans (HL.out.trans l91))
                      clear hHeld
                      go_wp2_with fail
                      go_ret
                      exact ⟨rfl, B0.out.trans HLE.out⟩
end Go.Proofs.YtfokplidiboabaaGreat

