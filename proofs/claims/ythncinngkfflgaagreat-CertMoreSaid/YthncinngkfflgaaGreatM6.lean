import Derived.Test.YthncinngkfflgaaGreatM5

/- Fractions: the closures of Add, Sub, Mul. -/
set_option linter.unusedVariables false
set_option linter.unusedSimpArgs false
set_option maxRecDepth 100000
namespace Go.Proofs.YthncinngkfflgaaGreat
open Go.RowKit Go.Shelf
attribute [local go_sem ↓] Go.wp_at_zero Go.wp_at_succ

/-- a fraction whose two numbers are those of a plain one -/
def PlnR (w : World) (v : Value) (q : Rat) (k : Nat) : Prop :=
  ∃ s A n c s' A' n' c', v = .agg #[.bool s, .slice A n c, .bool s', .slice A' n' c'] ∧ RawI w (.agg #[.bool s, .slice A n c]) q.num k ∧ RawI w (.agg #[.bool s', .slice A' n' c']) q.den k
theorem PlnR.later {w w' : World} {v : Value} {q : Rat} {k : Nat} (h : PlnR w v q k) (hb : Later w w') : PlnR w' v q k := by
  obtain ⟨s, A, n, c, s', A', n', c', e, h1, h2⟩ := h; exact ⟨s, A, n, c, s', A', n', c', e, h1.later hb, h2.later hb⟩
theorem OwnR.pln {w : World} {B : Nat} {v : Value} {q : Rat} {k : Nat} (h : OwnR w B v q) (hk : Sized q k) : PlnR w v q k := by
  obtain ⟨s, A, n, c, A', n', c', rfl, h⟩ := h.open_
  exact ⟨s, A, n, c, false, A', n', c', rfl, h.num.raw hk.1, h.den.raw (limbs_castZ hk.2)⟩
theorem PlnR.sized {w : World} {v : Value} {q : Rat} {k : Nat} (h : PlnR w v q k) : Sized q k := by
  obtain ⟨s, A, n, c, s', A', n', c', e, h1, h2⟩ := h
  exact ⟨h1.limbs_le, by have := h2.limbs_le; rwa [Int.natAbs_natCast] at this⟩

set_option maxHeartbeats 2000000 in
theorem rmul1_calls (w : World) (va vb : Value) (a b : Rat) (k m : Nat) (ha : PlnR w va a k) (hb : PlnR w vb b m) (hkm : k + m ≤ 300000000) :
    Calls Tryz.prog 134 #[va, vb] w (Ret w fun w' v => OwnR w' w.heap.size v (a * b)) := by
  have hA := ha.sized; have hB := hb.sized
  obtain ⟨sa, A1, n1, c1, sa', A1', n1', c1', rfl, ha1, ha2⟩ := ha
  obtain ⟨sb, A2, n2, c2, sb', A2', n2', c2', rfl, hb1, hb2⟩ := hb
  obtain ⟨q, hq⟩ : ∃ q, q = a * b := ⟨_, rfl⟩
  rw [← hq]
  have hq2 := ratOf_mul a b
  rw [← hq] at hq2
  have HQ := hide hq2.symm
  obtain ⟨x1, hx1⟩ : ∃ x, x = a.num := ⟨_, rfl⟩
  obtain ⟨x2, hx2⟩ : ∃ x, x = (a.den : Int) := ⟨_, rfl⟩
  obtain ⟨y1, hy1⟩ : ∃ x, x = b.num := ⟨_, rfl⟩
  obtain ⟨y2, hy2⟩ : ∃ x, x = (b.den : Int) := ⟨_, rfl⟩
  have hne : x2 * y2 ≠ 0 := by rw [hx2, hy2]; exact den_mul_ne a b
  rw [← hx1, ← hx2, ← hy1, ← hy2] at HQ
  rw [← hx1] at ha1; rw [← hx2] at ha2; rw [← hy1] at hb1; rw [← hy2] at hb2
  have HA1 := hide ha1; have HA2 := hide ha2; have HB1 := hide hb1; have HB2 := hide hb2; have HNE := hide hne
  have SA1 := ha1.limbs_le; have SA2 := ha2.limbs_le; have SB1 := hb1.limbs_le; have SB2 := hb2.limbs_le
  clear hq hq2 hx1 hx2 hy1 hy2 ha1 ha2 hb1 hb2 hA hB hne
  go_enter Tryz.func134, Tryz.ntmps134
  go_upto_region 1 with fail
  obtain ⟨W0, hW0⟩ : ∃ W0, W0 = (((w.alloc (Obj.cells #[Value.bool sa, Value.slice A1 n1 c1, Value.bool sa', Value.slice A1' n1' c1'] 37)).alloc (Obj.cells #[Value.bool sb, Value.slice A2 n2 c2, Value.bool sb', Value.slice A2' n2' c2'] 37)).alloc (Obj.cells #[Value.bool false, Value.slice none 0 0, Value.bool false, Value.slice none 0 0] 37)) := ⟨_, rfl⟩
  obtain ⟨hb0, r1, r2, r3, hsz⟩ := boxes3 w [.bool sa, .slice A1 n1 c1, .bool sa', .slice A1' n1' c1'] [.bool sb, .slice A2 n2 c2, .bool sb', .slice A2' n2' c2'] [.bool false, .slice none 0 0, .bool false, .slice none 0 0] 37 37 37 hW0
  rw [← hW0]
  have hb0 := hb0.drew; have r1 := r1.drew; have r2 := r2.drew; have r3 := r3.drew
  have hsz : W0.drew.heap.size = w.heap.size + 3 := hsz
  have R3 := hide r3; have B0 := hide hb0
  have HT1 : Hid (∀ w', Later W0.drew w' → w'.cell? ⟨w.heap.size, 0, none⟩ = some (.bool sa) ∧ w'.cell? ⟨w.heap.size, 1, none⟩ = some (.slice A1 n1 c1) ∧ w'.cell? ⟨w.heap.size, 2, none⟩ = some (.bool sa') ∧ w'.cell? ⟨w.heap.size, 3, none⟩ = some (.slice A1' n1' c1') ∧ w'.cell? ⟨w.heap.size + 1, 0, none⟩ = some (.bool sb) ∧ w'.cell? ⟨w.heap.size + 1, 1, none⟩ = some (.slice A2 n2 c2) ∧ w'.cell? ⟨w.heap.size + 1, 2, none⟩ = some (.bool sb') ∧ w'.cell? ⟨w.heap.size + 1, 3, none⟩ = some (.slice A2' n2' c2')) :=
    hide fun w' hb => ⟨(r1.later hb).cell rfl, (r1.later hb).cell rfl, (r1.later hb).cell rfl, (r1.later hb).cell rfl, (r2.later hb).cell rfl, (r2.later hb).cell rfl, (r2.later hb).cell rfl, (r2.later hb).cell rfl⟩
  have HT2 : Hid (∀ w' a_ b_ c_ d_, Later W0.drew w' → ((((w'.setCell ⟨w.heap.size + 2, 0, none⟩ a_).setCell ⟨w.heap.size + 2, 1, none⟩ b_).setCell ⟨w.heap.size + 2, 2, none⟩ c_).setCell ⟨w.heap.size + 2, 3, none⟩ d_).cell? ⟨w.heap.size, 0, none⟩ = some (.bool sa) ∧ ((((w'.setCell ⟨w.heap.size + 2, 0, none⟩ a_).setCell ⟨w.heap.size + 2, 1, none⟩ b_).setCell ⟨w.heap.size + 2, 2, none⟩ c_).setCell ⟨w.heap.size + 2, 3, none⟩ d_).cell? ⟨w.heap.size, 1, none⟩ = some (.slice A1 n1 c1) ∧ ((((w'.setCell ⟨w.heap.size + 2, 0, none⟩ a_).setCell ⟨w.heap.size + 2, 1, none⟩ b_).setCell ⟨w.heap.size + 2, 2, none⟩ c_).setCell ⟨w.heap.size + 2, 3, none⟩ d_).cell? ⟨w.heap.size, 2, none⟩ = some (.bool sa') ∧ ((((w'.setCell ⟨w.heap.size + 2, 0, none⟩ a_).setCell ⟨w.heap.size + 2, 1, none⟩ b_).setCell ⟨w.heap.size + 2, 2, none⟩ c_).setCell ⟨w.heap.size + 2, 3, none⟩ d_).cell? ⟨w.heap.size, 3, none⟩ = some (.slice A1' n1' c1') ∧ ((((w'.setCell ⟨w.heap.size + 2, 0, none⟩ a_).setCell ⟨w.heap.size + 2, 1, none⟩ b_).setCell ⟨w.heap.size + 2, 2, none⟩ c_).setCell ⟨w.heap.size + 2, 3, none⟩ d_).cell? ⟨w.heap.size + 1, 0, none⟩ = some (.bool sb) ∧ ((((w'.setCell ⟨w.heap.size + 2, 0, none⟩ a_).setCell ⟨w.heap.size + 2, 1, none⟩ b_).setCell ⟨w.heap.size + 2, 2, none⟩ c_).setCell ⟨w.heap.size + 2, 3, none⟩ d_).cell? ⟨w.heap.size + 1, 1, none⟩ = some (.slice A2 n2 c2) ∧ ((((w'.setCell ⟨w.heap.size + 2, 0, none⟩ a_).setCell ⟨w.heap.size + 2, 1, none⟩ b_).setCell ⟨w.heap.size + 2, 2, none⟩ c_).setCell ⟨w.heap.size + 2, 3, none⟩ d_).cell? ⟨w.heap.size + 1, 2, none⟩ = some (.bool sb') ∧ ((((w'.setCell ⟨w.heap.size + 2, 0, none⟩ a_).setCell ⟨w.heap.size + 2, 1, none⟩ b_).setCell ⟨w.heap.size + 2, 2, none⟩ c_).setCell ⟨w.heap.size + 2, 3, none⟩ d_).cell? ⟨w.heap.size + 1, 3, none⟩ = some (.slice A2' n2' c2')) :=
    hide fun w' a_ b_ c_ d_ hb => ⟨((r1.later hb).far4 (by omega) a_ b_ c_ d_).cell rfl, ((r1.later hb).far4 (by omega) a_ b_ c_ d_).cell rfl, ((r1.later hb).far4 (by omega) a_ b_ c_ d_).cell rfl, ((r1.later hb).far4 (by omega) a_ b_ c_ d_).cell rfl, ((r2.later hb).far4 (by omega) a_ b_ c_ d_).cell rfl, ((r2.later hb).far4 (by omega) a_ b_ c_ d_).cell rfl, ((r2.later hb).far4 (by omega) a_ b_ c_ d_).cell rfl, ((r2.later hb).far4 (by omega) a_ b_ c_ d_).cell rfl⟩

  have Z1 : Hid ((limbs (x1 * y1).natAbs).length ≤ k + m + 1) := hide (Nat.le_succ_of_le (limbs_mulZ SA1 SB1))
  have Z2 : Hid ((limbs (x2 * y2).natAbs).length ≤ k + m + 1) := hide (Nat.le_succ_of_le (limbs_mulZ SA2 SB2))
  clear hW0 r1 r2 r3 hb0 SA1 SA2 SB1 SB2
  go_region_held3 (fun w' => w'.cell? ⟨w.heap.size, 0, none⟩ = some (.bool sa) ∧ w'.cell? ⟨w.heap.size, 1, none⟩ = some (.slice A1 n1 c1) ∧ w'.cell? ⟨w.heap.size, 2, none⟩ = some (.bool sa') ∧ w'.cell? ⟨w.heap.size, 3, none⟩ = some (.slice A1' n1' c1') ∧ w'.cell? ⟨w.heap.size + 1, 0, none⟩ = some (.bool sb) ∧ w'.cell? ⟨w.heap.size + 1, 1, none⟩ = some (.slice A2 n2 c2) ∧ w'.cell? ⟨w.heap.size + 1, 2, none⟩ = some (.bool sb') ∧ w'.cell? ⟨w.heap.size + 1, 3, none⟩ = some (.slice A2' n2' c2'))
    (first | exact HT1.out _ (Later.refl _) | exact HT1.out _ b1 | exact HT1.out _ (b1.trans b2) | exact HT1.out _ ((b1.trans b2).trans b3) | exact HT2.out _ _ _ _ _ ((b1.trans b2).trans b3))
    (first
      | ((with_reducible refine (wmul_calls _ _ _ x1 y1 k m (HA1.out.later B0.out) (HB1.out.later B0.out) (by omega) (by omega)).mono ?_); rintro e w1 ⟨v1, rfl, o1, b1⟩; obtain ⟨s1, P1, q1, e1, rfl, o1⟩ := o1.open_; have O1 := hide o1; clear o1)
      | ((with_reducible refine (wmul_calls _ _ _ x2 y2 k m (HA2.out.later (B0.out.trans b1)) (HB2.out.later (B0.out.trans b1)) (by omega) (by omega)).mono ?_); rintro e w2 ⟨v2, rfl, o2, b2⟩; obtain ⟨s2, P2, q2, e2, rfl, o2⟩ := o2.open_; have O2 := hide o2; clear o2)
      | ((with_reducible refine (by_calls _ _ _ (x1 * y1) (x2 * y2) (k + m + 1) ((O1.out.raw (Z1.out)).later b2) (O2.out.raw (Z2.out)) (by omega) HNE.out q HQ.out).mono ?_); rintro e w3 ⟨v3, rfl, o3, b3⟩; obtain ⟨s3, P3, q3, e3, P3', q3', e3', rfl, o3⟩ := o3.open_; have O3 := hide o3; clear o3; obtain ⟨f1, f2, f3, f4, f5, f6, f7, f8⟩ := row_cells4 (R3.out.later ((b1.trans b2).trans b3))))
  have hs0 : W0.drew.heap.size = w.heap.size + 3 := hsz
  have hL := B0.out.trans ((b1.trans b2).trans b3)
  have hrow := R3.out.later ((b1.trans b2).trans b3)
  have hs1 := b1.size; have hs2 := b2.size; have hs3 := b3.size
  clear f1 f2 f3 f4 f5 f6 f7 f8
  go_wp2_with fail
  refine bodyPost_ret (results_rat rfl rfl (hrow.four _ _ _ _)) rfl ?_
  have oo := Only.four (w.heap.size + 2) w3 (.bool s3) (.slice P3 q3 e3) (.bool false) (.slice P3' q3' e3')
  exact ⟨_, rfl, (O3.out.only oo (by omega)).weaken (by omega), hL.only oo (by omega)⟩

set_option maxHeartbeats 2000000 in
theorem radd1_calls (w : World) (va vb : Value) (a b : Rat) (k m : Nat) (ha : PlnR w va a k) (hb : PlnR w vb b m) (hkm : k + m ≤ 300000000) :
    Calls Tryz.prog 131 #[va, vb] w (Ret w fun w' v => OwnR w' w.heap.size v (a + b)) := by
  have hA := ha.sized; have hB := hb.sized
  obtain ⟨sa, A1, n1, c1, sa', A1', n1', c1', rfl, ha1, ha2⟩ := ha
  obtain ⟨sb, A2, n2, c2, sb', A2', n2', c2', rfl, hb1, hb2⟩ := hb
  obtain ⟨q, hq⟩ : ∃ q, q = a + b := ⟨_, rfl⟩
  rw [← hq]
  have hq2 := ratOf_add a b
  rw [← hq] at hq2
  have HQ := hide hq2.symm
  obtain ⟨x1, hx1⟩ : ∃ x, x = a.num := ⟨_, rfl⟩
  obtain ⟨x2, hx2⟩ : ∃ x, x = (a.den : Int) := ⟨_, rfl⟩
  obtain ⟨y1, hy1⟩ : ∃ x, x = b.num := ⟨_, rfl⟩
  obtain ⟨y2, hy2⟩ : ∃ x, x = (b.den : Int) := ⟨_, rfl⟩
  have hne : x2 * y2 ≠ 0 := by rw [hx2, hy2]; exact den_mul_ne a b
  rw [← hx1, ← hx2, ← hy1, ← hy2] at HQ
  rw [← hx1] at ha1; rw [← hx2] at ha2; rw [← hy1] at hb1; rw [← hy2] at hb2
  have HA1 := hide ha1; have HA2 := hide ha2; have HB1 := hide hb1; have HB2 := hide hb2; have HNE := hide hne
  have SA1 := ha1.limbs_le; have SA2 := ha2.limbs_le; have SB1 := hb1.limbs_le; have SB2 := hb2.limbs_le
  clear hq hq2 hx1 hx2 hy1 hy2 ha1 ha2 hb1 hb2 hA hB hne
  go_enter Tryz.func131, Tryz.ntmps131
  go_upto_region 1 with fail
  obtain ⟨W0, hW0⟩ : ∃ W0, W0 = (((w.alloc (Obj.cells #[Value.bool sa, Value.slice A1 n1 c1, Value.bool sa', Value.slice A1' n1' c1'] 37)).alloc (Obj.cells #[Value.bool sb, Value.slice A2 n2 c2, Value.bool sb', Value.slice A2' n2' c2'] 37)).alloc (Obj.cells #[Value.bool false, Value.slice none 0 0, Value.bool false, Value.slice none 0 0] 37)) := ⟨_, rfl⟩
  obtain ⟨hb0, r1, r2, r3, hsz⟩ := boxes3 w [.bool sa, .slice A1 n1 c1, .bool sa', .slice A1' n1' c1'] [.bool sb, .slice A2 n2 c2, .bool sb', .slice A2' n2' c2'] [.bool false, .slice none 0 0, .bool false, .slice none 0 0] 37 37 37 hW0
  rw [← hW0]
  have hb0 := hb0.drew; have r1 := r1.drew; have r2 := r2.drew; have r3 := r3.drew
  have hsz : W0.drew.heap.size = w.heap.size + 3 := hsz
  have R3 := hide r3; have B0 := hide hb0
  have HT1 : Hid (∀ w', Later W0.drew w' → w'.cell? ⟨w.heap.size, 0, none⟩ = some (.bool sa) ∧ w'.cell? ⟨w.heap.size, 1, none⟩ = some (.slice A1 n1 c1) ∧ w'.cell? ⟨w.heap.size, 2, none⟩ = some (.bool sa') ∧ w'.cell? ⟨w.heap.size, 3, none⟩ = some (.slice A1' n1' c1') ∧ w'.cell? ⟨w.heap.size + 1, 0, none⟩ = some (.bool sb) ∧ w'.cell? ⟨w.heap.size + 1, 1, none⟩ = some (.slice A2 n2 c2) ∧ w'.cell? ⟨w.heap.size + 1, 2, none⟩ = some (.bool sb') ∧ w'.cell? ⟨w.heap.size + 1, 3, none⟩ = some (.slice A2' n2' c2')) :=
    hide fun w' hb => ⟨(r1.later hb).cell rfl, (r1.later hb).cell rfl, (r1.later hb).cell rfl, (r1.later hb).cell rfl, (r2.later hb).cell rfl, (r2.later hb).cell rfl, (r2.later hb).cell rfl, (r2.later hb).cell rfl⟩
  have HT2 : Hid (∀ w' a_ b_ c_ d_, Later W0.drew w' → ((((w'.setCell ⟨w.heap.size + 2, 0, none⟩ a_).setCell ⟨w.heap.size + 2, 1, none⟩ b_).setCell ⟨w.heap.size + 2, 2, none⟩ c_).setCell ⟨w.heap.size + 2, 3, none⟩ d_).cell? ⟨w.heap.size, 0, none⟩ = some (.bool sa) ∧ ((((w'.setCell ⟨w.heap.size + 2, 0, none⟩ a_).setCell ⟨w.heap.size + 2, 1, none⟩ b_).setCell ⟨w.heap.size + 2, 2, none⟩ c_).setCell ⟨w.heap.size + 2, 3, none⟩ d_).cell? ⟨w.heap.size, 1, none⟩ = some (.slice A1 n1 c1) ∧ ((((w'.setCell ⟨w.heap.size + 2, 0, none⟩ a_).setCell ⟨w.heap.size + 2, 1, none⟩ b_).setCell ⟨w.heap.size + 2, 2, none⟩ c_).setCell ⟨w.heap.size + 2, 3, none⟩ d_).cell? ⟨w.heap.size, 2, none⟩ = some (.bool sa') ∧ ((((w'.setCell ⟨w.heap.size + 2, 0, none⟩ a_).setCell ⟨w.heap.size + 2, 1, none⟩ b_).setCell ⟨w.heap.size + 2, 2, none⟩ c_).setCell ⟨w.heap.size + 2, 3, none⟩ d_).cell? ⟨w.heap.size, 3, none⟩ = some (.slice A1' n1' c1') ∧ ((((w'.setCell ⟨w.heap.size + 2, 0, none⟩ a_).setCell ⟨w.heap.size + 2, 1, none⟩ b_).setCell ⟨w.heap.size + 2, 2, none⟩ c_).setCell ⟨w.heap.size + 2, 3, none⟩ d_).cell? ⟨w.heap.size + 1, 0, none⟩ = some (.bool sb) ∧ ((((w'.setCell ⟨w.heap.size + 2, 0, none⟩ a_).setCell ⟨w.heap.size + 2, 1, none⟩ b_).setCell ⟨w.heap.size + 2, 2, none⟩ c_).setCell ⟨w.heap.size + 2, 3, none⟩ d_).cell? ⟨w.heap.size + 1, 1, none⟩ = some (.slice A2 n2 c2) ∧ ((((w'.setCell ⟨w.heap.size + 2, 0, none⟩ a_).setCell ⟨w.heap.size + 2, 1, none⟩ b_).setCell ⟨w.heap.size + 2, 2, none⟩ c_).setCell ⟨w.heap.size + 2, 3, none⟩ d_).cell? ⟨w.heap.size + 1, 2, none⟩ = some (.bool sb') ∧ ((((w'.setCell ⟨w.heap.size + 2, 0, none⟩ a_).setCell ⟨w.heap.size + 2, 1, none⟩ b_).setCell ⟨w.heap.size + 2, 2, none⟩ c_).setCell ⟨w.heap.size + 2, 3, none⟩ d_).cell? ⟨w.heap.size + 1, 3, none⟩ = some (.slice A2' n2' c2')) :=
    hide fun w' a_ b_ c_ d_ hb => ⟨((r1.later hb).far4 (by omega) a_ b_ c_ d_).cell rfl, ((r1.later hb).far4 (by omega) a_ b_ c_ d_).cell rfl, ((r1.later hb).far4 (by omega) a_ b_ c_ d_).cell rfl, ((r1.later hb).far4 (by omega) a_ b_ c_ d_).cell rfl, ((r2.later hb).far4 (by omega) a_ b_ c_ d_).cell rfl, ((r2.later hb).far4 (by omega) a_ b_ c_ d_).cell rfl, ((r2.later hb).far4 (by omega) a_ b_ c_ d_).cell rfl, ((r2.later hb).far4 (by omega) a_ b_ c_ d_).cell rfl⟩

  have Z1 : Hid ((limbs (x1 * y2).natAbs).length ≤ k + m + 1) := hide (Nat.le_succ_of_le (limbs_mulZ SA1 SB2))
  have Z2 : Hid ((limbs (y1 * x2).natAbs).length ≤ k + m + 1) := hide (Nat.le_succ_of_le (by rw [Nat.add_comm k m]; exact limbs_mulZ SB1 SA2))
  have Z3 : Hid ((limbs (x1 * y2 + y1 * x2).natAbs).length ≤ k + m + 1) := hide (limbs_addZ (limbs_mulZ SA1 SB2) (by rw [Nat.add_comm k m]; exact limbs_mulZ SB1 SA2))
  have Z4 : Hid ((limbs (x2 * y2).natAbs).length ≤ k + m + 1) := hide (Nat.le_succ_of_le (limbs_mulZ SA2 SB2))
  clear hW0 r1 r2 r3 hb0 SA1 SA2 SB1 SB2
  go_region_held3 (fun w' => w'.cell? ⟨w.heap.size, 0, none⟩ = some (.bool sa) ∧ w'.cell? ⟨w.heap.size, 1, none⟩ = some (.slice A1 n1 c1) ∧ w'.cell? ⟨w.heap.size, 2, none⟩ = some (.bool sa') ∧ w'.cell? ⟨w.heap.size, 3, none⟩ = some (.slice A1' n1' c1') ∧ w'.cell? ⟨w.heap.size + 1, 0, none⟩ = some (.bool sb) ∧ w'.cell? ⟨w.heap.size + 1, 1, none⟩ = some (.slice A2 n2 c2) ∧ w'.cell? ⟨w.heap.size + 1, 2, none⟩ = some (.bool sb') ∧ w'.cell? ⟨w.heap.size + 1, 3, none⟩ = some (.slice A2' n2' c2'))
    (first | exact HT1.out _ (Later.refl _) | exact HT1.out _ b1 | exact HT1.out _ (b1.trans b2) | exact HT1.out _ ((b1.trans b2).trans b3) | exact HT1.out _ (((b1.trans b2).trans b3).trans b4) | exact HT1.out _ ((((b1.trans b2).trans b3).trans b4).trans b5) | exact HT2.out _ _ _ _ _ ((((b1.trans b2).trans b3).trans b4).trans b5))
    (first
      | ((with_reducible refine (wmul_calls _ _ _ x1 y2 k m (HA1.out.later B0.out) (HB2.out.later B0.out) (by omega) (by omega)).mono ?_); rintro e w1 ⟨v1, rfl, o1, b1⟩; obtain ⟨s1, P1, q1, e1, rfl, o1⟩ := o1.open_; have O1 := hide o1; clear o1)
      | ((with_reducible refine (wmul_calls _ _ _ y1 x2 m k (HB1.out.later (B0.out.trans b1)) (HA2.out.later (B0.out.trans b1)) (by omega) (by omega)).mono ?_); rintro e w2 ⟨v2, rfl, o2, b2⟩; obtain ⟨s2, P2, q2, e2, rfl, o2⟩ := o2.open_; have O2 := hide o2; clear o2)
      | ((with_reducible refine (wadd_calls _ _ _ (x1 * y2) (y1 * x2) (k + m + 1) (k + m + 1) ((O1.out.raw (Z1.out)).later b2) (O2.out.raw (Z2.out)) (by omega) (by omega)).mono ?_); rintro e w3 ⟨v3, rfl, o3, b3⟩; obtain ⟨s3, P3, q3, e3, rfl, o3⟩ := o3.open_; have O3 := hide o3; clear o3)
      | ((with_reducible refine (wmul_calls _ _ _ x2 y2 k m (HA2.out.later (((B0.out.trans b1).trans b2).trans b3)) (HB2.out.later (((B0.out.trans b1).trans b2).trans b3)) (by omega) (by omega)).mono ?_); rintro e w4 ⟨v4, rfl, o4, b4⟩; obtain ⟨s4, P4, q4, e4, rfl, o4⟩ := o4.open_; have O4 := hide o4; clear o4)
      | ((with_reducible refine (by_calls _ _ _ (x1 * y2 + y1 * x2) (x2 * y2) (k + m + 1) ((O3.out.raw (Z3.out)).later b4) (O4.out.raw (Z4.out)) (by omega) HNE.out q HQ.out).mono ?_); rintro e w5 ⟨v5, rfl, o5, b5⟩; obtain ⟨s5, P5, q5, e5, P5', q5', e5', rfl, o5⟩ := o5.open_; have O5 := hide o5; clear o5; obtain ⟨f1, f2, f3, f4, f5, f6, f7, f8⟩ := row_cells4 (R3.out.later ((((b1.trans b2).trans b3).trans b4).trans b5))))
  have hs0 : W0.drew.heap.size = w.heap.size + 3 := hsz
  have hL := B0.out.trans ((((b1.trans b2).trans b3).trans b4).trans b5)
  have hrow := R3.out.later ((((b1.trans b2).trans b3).trans b4).trans b5)
  have hs1 := b1.size; have hs2 := b2.size; have hs3 := b3.size; have hs4 := b4.size; have hs5 := b5.size
  clear f1 f2 f3 f4 f5 f6 f7 f8
  go_wp2_with fail
  refine bodyPost_ret (results_rat rfl rfl (hrow.four _ _ _ _)) rfl ?_
  have oo := Only.four (w.heap.size + 2) w5 (.bool s5) (.slice P5 q5 e5) (.bool false) (.slice P5' q5' e5')
  exact ⟨_, rfl, (O5.out.only oo (by omega)).weaken (by omega), hL.only oo (by omega)⟩

end Go.Proofs.YthncinngkfflgaaGreat


/- Fractions: Plain, both, Add, Sub, Mul. -/
set_option linter.unusedVariables false
set_option linter.unusedSimpArgs false
set_option maxRecDepth 100000
namespace Go.Proofs.YthncinngkfflgaaGreat
open Go.RowKit Go.Shelf
attribute [local go_sem ↓] Go.wp_at_zero Go.wp_at_succ

/-- a call of function number f is one of Go text -/
structure Enters (f : FuncId) : Prop where
  out : ∀ (w : World) (args : Array Value), (callFunc f args).run Tryz.prog w = .ok (.enter f args) w
theorem RawR.sized {w : World} {v : Value} {q : Rat} {k : Nat} (h : RawR w v q k) : Sized q (k+1) := by
  obtain ⟨a, A, n, c, b, A', n', c', x, y, e, h1, h2, rfl⟩ := h
  exact sized_ratOf h1.limbs_le h2.limbs_le

set_option maxHeartbeats 2000000 in
theorem rplain_calls (w : World) (v : Value) (q : Rat) (k : Nat) (h : RawR w v q k) (hk : k ≤ 300000000) :
    Calls Tryz.prog 106 #[v] w (Ret w fun w' v => OwnR w' w.heap.size v q) := by
  obtain ⟨sa, A1, n1, c1, sa', A1', n1', c1', x, y, rfl, hx, hy, hq⟩ := h
  have HX := hide hx; have HY := hide hy; have HQ := hide hq
  clear hx hy hq
  by_cases hpos : 0 < y
  · have hq : q = Rat.divInt x y := by rw [HQ.out, ratOf_pos hpos]
    have HQ2 := hide hq
    clear hq
    go_enter Tryz.func106, Tryz.ntmps106
    go_wp2_with fail
    obtain ⟨W0, hW0⟩ : ∃ W0, W0 = ((w.alloc (Obj.cells #[Value.bool sa, Value.slice A1 n1 c1, Value.bool sa', Value.slice A1' n1' c1'] 37)).alloc (Obj.cells #[Value.bool false, Value.slice none 0 0, Value.bool false, Value.slice none 0 0] 37)) := ⟨_, rfl⟩
    obtain ⟨hb0, r1, r2, hsz⟩ := boxes2 w [.bool sa, .slice A1 n1 c1, .bool sa', .slice A1' n1' c1'] [.bool false, .slice none 0 0, .bool false, .slice none 0 0] 37 37 hW0
    rw [← hW0]
    have R1 := hide r1; have R2 := hide r2; have B0 := hide hb0
    clear hW0 r1 r2 hb0
    refine (may_calls _ sa _ undef _ _ _ sa' y k (HY.out.later B0.out) ⟨_, _, _, rfl⟩ (by omega)).mono ?_
    rintro e w1 ⟨rfl, b1⟩
    rw [show decide (0 < y) = true by simpa using hpos]
    obtain ⟨d1, d2, d3, d4, d5, d6, d7, d8⟩ := row_cells4 (R1.out.later b1)
    go_wp2_with fail
    refine (by_calls _ _ _ x y k (HX.out.later (B0.out.trans b1)) (HY.out.later (B0.out.trans b1)) (by omega) (by omega) q HQ2.out).mono ?_
    rintro e w2 ⟨v2, rfl, o2, b2⟩
    obtain ⟨s2, P2, q2, e2, P2', q2', e2', rfl, o2⟩ := o2.open_; have O2 := hide o2; clear o2
    clear d1 d2 d3 d4 d5 d6 d7 d8
    have hb := b1.trans b2
    obtain ⟨d1, d2, d3, d4, d5, d6, d7, d8⟩ := row_cells4 (R2.out.later hb)
    have hrow := R2.out.later hb
    have hL := B0.out.trans hb
    have hs1 := b1.size
    have HR := hide hrow
    clear hrow
    go_wp2_with fail
    refine bodyPost_ret (results_rat rfl rfl (HR.out.four _ _ _ _)) rfl ?_
    have oo := Only.four (w.heap.size + 1) w2 (.bool s2) (.slice P2 q2 e2) (.bool false) (.slice P2' q2' e2')
    exact ⟨_, rfl, (O2.out.only oo (by omega)).weaken (by omega), hL.only oo (by omega)⟩
  · have hq : q = 0 := by rw [HQ.out, ratOf_not hpos]
    subst hq
    go_enter Tryz.func106, Tryz.ntmps106
    go_wp2_with fail
    obtain ⟨W0, hW0⟩ : ∃ W0, W0 = ((w.alloc (Obj.cells #[Value.bool sa, Value.slice A1 n1 c1, Value.bool sa', Value.slice A1' n1' c1'] 37)).alloc (Obj.cells #[Value.bool false, Value.slice none 0 0, Value.bool false, Value.slice none 0 0] 37)) := ⟨_, rfl⟩
    obtain ⟨hb0, r1, r2, hsz⟩ := boxes2 w [.bool sa, .slice A1 n1 c1, .bool sa', .slice A1' n1' c1'] [.bool false, .slice none 0 0, .bool false, .slice none 0 0] 37 37 hW0
    rw [← hW0]
    have R1 := hide r1; have R2 := hide r2; have B0 := hide hb0
    clear hW0 r1 r2 hb0
    refine (may_calls _ sa _ undef _ _ _ sa' y k (HY.out.later B0.out) ⟨_, _, _, rfl⟩ (by omega)).mono ?_
    rintro e w1 ⟨rfl, b1⟩
    rw [show decide (0 < y) = false by simpa using hpos]
    go_wp2_with fail
    refine (zero_calls _).mono ?_
    rintro e w2 ⟨v2, rfl, o2, b2⟩
    obtain ⟨s2, P2, q2, e2, P2', q2', e2', rfl, o2⟩ := o2.open_; have O2 := hide o2; clear o2
    have hb := b1.trans b2
    obtain ⟨d1, d2, d3, d4, d5, d6, d7, d8⟩ := row_cells4 (R2.out.later hb)
    have hL := B0.out.trans hb
    have hs1 := b1.size
    have HR := hide (R2.out.later hb)
    go_wp2_with fail
    refine bodyPost_ret (results_rat rfl rfl (HR.out.four _ _ _ _)) rfl ?_
    have oo := Only.four (w.heap.size + 1) w2 (.bool s2) (.slice P2 q2 e2) (.bool false) (.slice P2' q2' e2')
    exact ⟨_, rfl, (O2.out.only oo (by omega)).weaken (by omega), hL.only oo (by omega)⟩

set_option maxHeartbeats 2000000 in
theorem both_calls (w : World) (va vb : Value) (a b q : Rat) (k m : Nat) (ha : RawR w va a k) (hb : RawR w vb b m) (hkm : k + m ≤ 200000000) (f : FuncId) (hf : Enters f)
    (ht : ∀ W v1 v2, PlnR W v1 a (k+1) → PlnR W v2 b (m+1) → Calls Tryz.prog f #[v1, v2] W (Ret W fun w' v => OwnR w' W.heap.size v q)) :
    Calls Tryz.prog 130 #[va, vb, .func (.func f) #[] #[]] w (Ret w fun w' v => OwnR w' w.heap.size v q) := by
  have SA := hide ha.sized; have SB := hide hb.sized
  have HA := hide ha; have HB := hide hb; have HT := hide ht
  have hen := hf.out
  obtain ⟨sa, A1, n1, c1, sa', A1', n1', c1', rfl⟩ := ha.open_
  obtain ⟨sb, A2, n2, c2, sb', A2', n2', c2', rfl⟩ := hb.open_
  clear ha hb ht
  go_enter Tryz.func130, Tryz.ntmps130
  go_upto_region 1 with fail
  obtain ⟨W0, hW0⟩ : ∃ W0, W0 = (((w.alloc (Obj.cells #[Value.bool sa, Value.slice A1 n1 c1, Value.bool sa', Value.slice A1' n1' c1'] 37)).alloc (Obj.cells #[Value.bool sb, Value.slice A2 n2 c2, Value.bool sb', Value.slice A2' n2' c2'] 37)).alloc (Obj.cells #[Value.bool false, Value.slice none 0 0, Value.bool false, Value.slice none 0 0] 37)) := ⟨_, rfl⟩
  obtain ⟨hb0, r1, r2, r3, hsz⟩ := boxes3 w [.bool sa, .slice A1 n1 c1, .bool sa', .slice A1' n1' c1'] [.bool sb, .slice A2 n2 c2, .bool sb', .slice A2' n2' c2'] [.bool false, .slice none 0 0, .bool false, .slice none 0 0] 37 37 37 hW0
  rw [← hW0]
  have hb0 := hb0.drew; have r1 := r1.drew; have r2 := r2.drew; have r3 := r3.drew
  have hsz : W0.drew.heap.size = w.heap.size + 3 := hsz
  have R3 := hide r3; have B0 := hide hb0
  have HS1 : Hid (∀ w', Later W0.drew w' → w'.cell? ⟨w.heap.size, 0, none⟩ = some (.bool sa) ∧ w'.cell? ⟨w.heap.size, 1, none⟩ = some (.slice A1 n1 c1) ∧ w'.cell? ⟨w.heap.size, 2, none⟩ = some (.bool sa') ∧ w'.cell? ⟨w.heap.size, 3, none⟩ = some (.slice A1' n1' c1') ∧ w'.cell? ⟨w.heap.size + 1, 0, none⟩ = some (.bool sb) ∧ w'.cell? ⟨w.heap.size + 1, 1, none⟩ = some (.slice A2 n2 c2) ∧ w'.cell? ⟨w.heap.size + 1, 2, none⟩ = some (.bool sb') ∧ w'.cell? ⟨w.heap.size + 1, 3, none⟩ = some (.slice A2' n2' c2')) :=
    hide fun w' hb => ⟨(r1.later hb).cell rfl, (r1.later hb).cell rfl, (r1.later hb).cell rfl, (r1.later hb).cell rfl, (r2.later hb).cell rfl, (r2.later hb).cell rfl, (r2.later hb).cell rfl, (r2.later hb).cell rfl⟩
  have HS2 : Hid (∀ w' a_ b_ c_ d_, Later W0.drew w' → ((((w'.setCell ⟨w.heap.size + 2, 0, none⟩ a_).setCell ⟨w.heap.size + 2, 1, none⟩ b_).setCell ⟨w.heap.size + 2, 2, none⟩ c_).setCell ⟨w.heap.size + 2, 3, none⟩ d_).cell? ⟨w.heap.size, 0, none⟩ = some (.bool sa) ∧ ((((w'.setCell ⟨w.heap.size + 2, 0, none⟩ a_).setCell ⟨w.heap.size + 2, 1, none⟩ b_).setCell ⟨w.heap.size + 2, 2, none⟩ c_).setCell ⟨w.heap.size + 2, 3, none⟩ d_).cell? ⟨w.heap.size, 1, none⟩ = some (.slice A1 n1 c1) ∧ ((((w'.setCell ⟨w.heap.size + 2, 0, none⟩ a_).setCell ⟨w.heap.size + 2, 1, none⟩ b_).setCell ⟨w.heap.size + 2, 2, none⟩ c_).setCell ⟨w.heap.size + 2, 3, none⟩ d_).cell? ⟨w.heap.size, 2, none⟩ = some (.bool sa') ∧ ((((w'.setCell ⟨w.heap.size + 2, 0, none⟩ a_).setCell ⟨w.heap.size + 2, 1, none⟩ b_).setCell ⟨w.heap.size + 2, 2, none⟩ c_).setCell ⟨w.heap.size + 2, 3, none⟩ d_).cell? ⟨w.heap.size, 3, none⟩ = some (.slice A1' n1' c1') ∧ ((((w'.setCell ⟨w.heap.size + 2, 0, none⟩ a_).setCell ⟨w.heap.size + 2, 1, none⟩ b_).setCell ⟨w.heap.size + 2, 2, none⟩ c_).setCell ⟨w.heap.size + 2, 3, none⟩ d_).cell? ⟨w.heap.size + 1, 0, none⟩ = some (.bool sb) ∧ ((((w'.setCell ⟨w.heap.size + 2, 0, none⟩ a_).setCell ⟨w.heap.size + 2, 1, none⟩ b_).setCell ⟨w.heap.size + 2, 2, none⟩ c_).setCell ⟨w.heap.size + 2, 3, none⟩ d_).cell? ⟨w.heap.size + 1, 1, none⟩ = some (.slice A2 n2 c2) ∧ ((((w'.setCell ⟨w.heap.size + 2, 0, none⟩ a_).setCell ⟨w.heap.size + 2, 1, none⟩ b_).setCell ⟨w.heap.size + 2, 2, none⟩ c_).setCell ⟨w.heap.size + 2, 3, none⟩ d_).cell? ⟨w.heap.size + 1, 2, none⟩ = some (.bool sb') ∧ ((((w'.setCell ⟨w.heap.size + 2, 0, none⟩ a_).setCell ⟨w.heap.size + 2, 1, none⟩ b_).setCell ⟨w.heap.size + 2, 2, none⟩ c_).setCell ⟨w.heap.size + 2, 3, none⟩ d_).cell? ⟨w.heap.size + 1, 3, none⟩ = some (.slice A2' n2' c2')) :=
    hide fun w' a_ b_ c_ d_ hb => ⟨((r1.later hb).far4 (by omega) a_ b_ c_ d_).cell rfl, ((r1.later hb).far4 (by omega) a_ b_ c_ d_).cell rfl, ((r1.later hb).far4 (by omega) a_ b_ c_ d_).cell rfl, ((r1.later hb).far4 (by omega) a_ b_ c_ d_).cell rfl, ((r2.later hb).far4 (by omega) a_ b_ c_ d_).cell rfl, ((r2.later hb).far4 (by omega) a_ b_ c_ d_).cell rfl, ((r2.later hb).far4 (by omega) a_ b_ c_ d_).cell rfl, ((r2.later hb).far4 (by omega) a_ b_ c_ d_).cell rfl⟩

  clear hW0 r1 r2 r3 hb0
  go_region_held3 (fun w' => w'.cell? ⟨w.heap.size, 0, none⟩ = some (.bool sa) ∧ w'.cell? ⟨w.heap.size, 1, none⟩ = some (.slice A1 n1 c1) ∧ w'.cell? ⟨w.heap.size, 2, none⟩ = some (.bool sa') ∧ w'.cell? ⟨w.heap.size, 3, none⟩ = some (.slice A1' n1' c1') ∧ w'.cell? ⟨w.heap.size + 1, 0, none⟩ = some (.bool sb) ∧ w'.cell? ⟨w.heap.size + 1, 1, none⟩ = some (.slice A2 n2 c2) ∧ w'.cell? ⟨w.heap.size + 1, 2, none⟩ = some (.bool sb') ∧ w'.cell? ⟨w.heap.size + 1, 3, none⟩ = some (.slice A2' n2' c2'))
    (first | exact HS1.out _ (Later.refl _) | exact HS1.out _ b1 | exact HS1.out _ (b1.trans b2) | exact HS1.out _ ((b1.trans b2).trans b3) | exact HS2.out _ _ _ _ _ ((b1.trans b2).trans b3))
    (first
      | ((with_reducible refine (rplain_calls _ _ a k (HA.out.later B0.out) (by omega)).mono ?_); rintro e w1 ⟨v1, rfl, o1, b1⟩; obtain ⟨s1, P1, q1, e1, P1', q1', e1', rfl, o1⟩ := o1.open_; have O1 := hide o1; clear o1)
      | ((with_reducible refine (rplain_calls _ _ b m (HB.out.later (B0.out.trans b1)) (by omega)).mono ?_); rintro e w2 ⟨v2, rfl, o2, b2⟩; obtain ⟨s2, P2, q2, e2, P2', q2', e2', rfl, o2⟩ := o2.open_; have O2 := hide o2; clear o2)
      | ((with_reducible refine (HT.out _ _ _ (((O1.out.pln SA.out)).later b2) (O2.out.pln SB.out)).mono ?_); rintro e w3 ⟨v3, rfl, o3, b3⟩; obtain ⟨s3, P3, q3, e3, P3', q3', e3', rfl, o3⟩ := o3.open_; have O3 := hide o3; clear o3; obtain ⟨f1, f2, f3, f4, f5, f6, f7, f8⟩ := row_cells4 (R3.out.later ((b1.trans b2).trans b3))))
  have hL := B0.out.trans ((b1.trans b2).trans b3)
  have hrow := R3.out.later ((b1.trans b2).trans b3)
  have hs1 := b1.size; have hs2 := b2.size; have hs3 := b3.size
  clear f1 f2 f3 f4 f5 f6 f7 f8
  go_wp2_with fail
  refine bodyPost_ret (results_rat rfl rfl (hrow.four _ _ _ _)) rfl ?_
  have oo := Only.four (w.heap.size + 2) w3 (.bool s3) (.slice P3 q3 e3) (.bool false) (.slice P3' q3' e3')
  exact ⟨_, rfl, (O3.out.only oo (by omega)).weaken (by omega), hL.only oo (by omega)⟩

set_option maxHeartbeats 2000000 in
theorem radd_calls (w : World) (va vb : Value) (a b : Rat) (k m : Nat) (ha : RawR w va a k) (hb : RawR w vb b m) (hkm : k + m ≤ 200000000) :
    Calls Tryz.prog 82 #[va, vb] w (Ret w fun w' v => OwnR w' w.heap.size v (a + b)) := by
  have HA := hide ha; have HB := hide hb
  obtain ⟨q, hq⟩ : ∃ q, q = a + b := ⟨_, rfl⟩
  rw [← hq]
  have HQ := hide hq
  obtain ⟨sa, A1, n1, c1, sa', A1', n1', c1', rfl⟩ := ha.open_
  obtain ⟨sb, A2, n2, c2, sb', A2', n2', c2', rfl⟩ := hb.open_
  clear ha hb hq
  go_enter Tryz.func82, Tryz.ntmps82
  go_wp2_with fail
  obtain ⟨W0, hW0⟩ : ∃ W0, W0 = (((w.alloc (Obj.cells #[Value.bool sa, Value.slice A1 n1 c1, Value.bool sa', Value.slice A1' n1' c1'] 37)).alloc (Obj.cells #[Value.bool sb, Value.slice A2 n2 c2, Value.bool sb', Value.slice A2' n2' c2'] 37)).alloc (Obj.cells #[Value.bool false, Value.slice none 0 0, Value.bool false, Value.slice none 0 0] 37)) := ⟨_, rfl⟩
  obtain ⟨hb0, r1, r2, r3, hsz⟩ := boxes3 w [.bool sa, .slice A1 n1 c1, .bool sa', .slice A1' n1' c1'] [.bool sb, .slice A2 n2 c2, .bool sb', .slice A2' n2' c2'] [.bool false, .slice none 0 0, .bool false, .slice none 0 0] 37 37 37 hW0
  rw [← hW0]
  have R3 := hide r3; have B0 := hide hb0
  clear hW0 r1 r2 r3 hb0
  refine (both_calls _ _ _ a b q k m (HA.out.later B0.out) (HB.out.later B0.out) (by omega) _ ⟨fun _ _ => by kernel_rfl⟩ (fun W v1 v2 h1 h2 => by rw [HQ.out]; exact radd1_calls W v1 v2 a b (k+1) (m+1) h1 h2 (by omega))).mono ?_
  rintro e w1 ⟨v1, rfl, o1, b1⟩
  obtain ⟨s1, P1, q1, e1, P1', q1', e1', rfl, o1⟩ := o1.open_; have O1 := hide o1; clear o1
  obtain ⟨f1, f2, f3, f4, f5, f6, f7, f8⟩ := row_cells4 (R3.out.later b1)
  have HR := hide (R3.out.later b1)
  have hL := B0.out.trans b1
  go_wp2_with fail
  refine bodyPost_ret (results_rat rfl rfl (HR.out.four _ _ _ _)) rfl ?_
  have oo := Only.four (w.heap.size + 2) w1 (.bool s1) (.slice P1 q1 e1) (.bool false) (.slice P1' q1' e1')
  exact ⟨_, rfl, (O1.out.only oo (by omega)).weaken (by omega), hL.only oo (by omega)⟩

set_option maxHeartbeats 2000000 in
theorem rmul_calls (w : World) (va vb : Value) (a b : Rat) (k m : Nat) (ha : RawR w va a k) (hb : RawR w vb b m) (hkm : k + m ≤ 200000000) :
    Calls Tryz.prog 83 #[va, vb] w (Ret w fun w' v => OwnR w' w.heap.size v (a * b)) := by
  have HA := hide ha; have HB := hide hb
  obtain ⟨q, hq⟩ : ∃ q, q = a * b := ⟨_, rfl⟩
  rw [← hq]
  have HQ := hide hq
  obtain ⟨sa, A1, n1, c1, sa', A1', n1', c1', rfl⟩ := ha.open_
  obtain ⟨sb, A2, n2, c2, sb', A2', n2', c2', rfl⟩ := hb.open_
  clear ha hb hq
  go_enter Tryz.func83, Tryz.ntmps83
  go_wp2_with fail
  obtain ⟨W0, hW0⟩ : ∃ W0, W0 = (((w.alloc (Obj.cells #[Value.bool sa, Value.slice A1 n1 c1, Value.bool sa', Value.slice A1' n1' c1'] 37)).alloc (Obj.cells #[Value.bool sb, Value.slice A2 n2 c2, Value.bool sb', Value.slice A2' n2' c2'] 37)).alloc (Obj.cells #[Value.bool false, Value.slice none 0 0, Value.bool false, Value.slice none 0 0] 37)) := ⟨_, rfl⟩
  obtain ⟨hb0, r1, r2, r3, hsz⟩ := boxes3 w [.bool sa, .slice A1 n1 c1, .bool sa', .slice A1' n1' c1'] [.bool sb, .slice A2 n2 c2, .bool sb', .slice A2' n2' c2'] [.bool false, .slice none 0 0, .bool false, .slice none 0 0] 37 37 37 hW0
  rw [← hW0]
  have R3 := hide r3; have B0 := hide hb0
  clear hW0 r1 r2 r3 hb0
  refine (both_calls _ _ _ a b q k m (HA.out.later B0.out) (HB.out.later B0.out) (by omega) _ ⟨fun _ _ => by kernel_rfl⟩ (fun W v1 v2 h1 h2 => by rw [HQ.out]; exact rmul1_calls W v1 v2 a b (k+1) (m+1) h1 h2 (by omega))).mono ?_
  rintro e w1 ⟨v1, rfl, o1, b1⟩
  obtain ⟨s1, P1, q1, e1, P1', q1', e1', rfl, o1⟩ := o1.open_; have O1 := hide o1; clear o1
  obtain ⟨f1, f2, f3, f4, f5, f6, f7, f8⟩ := row_cells4 (R3.out.later b1)
  have HR := hide (R3.out.later b1)
  have hL := B0.out.trans b1
  go_wp2_with fail
  refine bodyPost_ret (results_rat rfl rfl (HR.out.four _ _ _ _)) rfl ?_
  have oo := Only.four (w.heap.size + 2) w1 (.bool s1) (.slice P1 q1 e1) (.bool false) (.slice P1' q1' e1')
  exact ⟨_, rfl, (O1.out.only oo (by omega)).weaken (by omega), hL.only oo (by omega)⟩
end Go.Proofs.YthncinngkfflgaaGreat
