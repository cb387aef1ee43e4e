import Derived.Test.YtbhohnhkephefaaM5

/- Fractions: the closures of Add, Sub, Mul. -/
set_option linter.unusedVariables false
set_option linter.unusedSimpArgs false
set_option maxRecDepth 100000
namespace Go.Proofs.Ytbhohnhkephefaa
open Go.RowKit Go.Shelf
attribute [local go_sem ↓] Go.wp_at_zero Go.wp_at_succ

/-- a fraction whose two numbers are those of a plain one -/
def PlnR (w : World) (v : Value) (q : Rat) (k : Nat) : Prop :=
  ∃ s A n c s' A' n' c', v = .agg #[.bool s, .slice A n c, .bool s', .slice A' n' c'] ∧ RawI w (.agg #[.bool s, .slice A n c]) q.num k ∧ RawI w (.agg #[.bool s', .slice A' n' c']) q.den k
theorem PlnR.later {w w' : World} {v : Value} {q : Rat} {k : Nat} (h : PlnR w v q k) (hb : Later w w') : PlnR w' v q k := by
  obtain ⟨s, A, n, c, s', A', n', c', e, h1, h2⟩ := h; exact ⟨s, A, n, c, s', A', n', c', e, h1.later hb, h2.later hb⟩
theorem OwnR.pln {w : World} {B : Nat} {v : Value} {q : Rat} {k : Nat} (h : OwnR w B v q) (hk : Sized q k) : PlnR w v q k := by
  obtain ⟨s, A, n, c, A', n', c', rfl, h⟩ := h.open_
  exact ⟨s, A, n, c, false, A', n', c', rfl, h.num.raw hk.1, h.den.raw (limbs_castZ hk.2)⟩
theorem PlnR.sized {w : World} {v : Value} {q : Rat} {k : Nat} (h : PlnR w v q k) : Sized q k := by
  obtain ⟨s, A, n, c, s', A', n', c', e, h1, h2⟩ := h
  exact ⟨h1.limbs_le, by have := h2.limbs_le; rwa [Int.natAbs_natCast] at this⟩

end Go.Proofs.Ytbhohnhkephefaa


/- Fractions: Plain, both, Add, Sub, Mul. -/
set_option linter.unusedVariables false
set_option linter.unusedSimpArgs false
set_option maxRecDepth 100000
namespace Go.Proofs.Ytbhohnhkephefaa
open Go.RowKit Go.Shelf
attribute [local go_sem ↓] Go.wp_at_zero Go.wp_at_succ

/-- a call of function number f is one of Go text -/
structure Enters (f : FuncId) : Prop where
  out : ∀ (w : World) (args : Array Value), (callFunc f args).run Try.prog w = .ok (.enter f args) w
theorem RawR.sized {w : World} {v : Value} {q : Rat} {k : Nat} (h : RawR w v q k) : Sized q (k+1) := by
  obtain ⟨a, A, n, c, b, A', n', c', x, y, e, h1, h2, rfl⟩ := h
  exact sized_ratOf h1.limbs_le h2.limbs_le

set_option maxHeartbeats 2000000 in
theorem rplain_calls (w : World) (v : Value) (q : Rat) (k : Nat) (h : RawR w v q k) (hk : k ≤ 300000000) :
    Calls Try.prog 26 #[v] w (Ret w fun w' v => OwnR w' w.heap.size v q) := by
  obtain ⟨sa, A1, n1, c1, sa', A1', n1', c1', x, y, rfl, hx, hy, hq⟩ := h
  have HX := hide hx; have HY := hide hy; have HQ := hide hq
  clear hx hy hq
  by_cases hpos : 0 < y
  · have hq : q = Rat.divInt x y := by rw [HQ.out, ratOf_pos hpos]
    have HQ2 := hide hq
    clear hq
    go_enter Try.func26, Try.ntmps26
    go_wp2_with fail
    obtain ⟨W0, hW0⟩ : ∃ W0, W0 = ((w.alloc (Obj.cells #[Value.bool sa, Value.slice A1 n1 c1, Value.bool sa', Value.slice A1' n1' c1'] 35)).alloc (Obj.cells #[Value.bool false, Value.slice none 0 0, Value.bool false, Value.slice none 0 0] 35)) := ⟨_, rfl⟩
    obtain ⟨hb0, r1, r2, hsz⟩ := boxes2 w [.bool sa, .slice A1 n1 c1, .bool sa', .slice A1' n1' c1'] [.bool false, .slice none 0 0, .bool false, .slice none 0 0] 35 35 hW0
    rw [← hW0]
    have R1 := hide r1; have R2 := hide r2; have B0 := hide hb0
    clear hW0 r1 r2 hb0
    refine (may_calls _ sa _ undef _ _ _ sa' y k (HY.out.later B0.out) ⟨_, _, _, rfl⟩ (by omega)).mono ?_
    rintro e w1 ⟨rfl, b1⟩
    rw [show decide (0 < y) = true by simpa using hpos]
    obtain ⟨d1, d2, d3, d4, d5, d6, d7, d8⟩ := row_cells4 (R1.out.later b1)
    go_wp2_with fail
    refine (by_calls _ _ _ x y k (HX.out.later (B0.out.trans b1)) (HY.out.later (B0.out.trans b1)) (by omega) (by omega) q HQ2.out).mono ?_
    rintro e w2 ⟨v2, rfl, o2, b2⟩
    obtain ⟨s2, P2, q2, e2, P2', q2', e2', rfl, o2⟩ := o2.open_; have O2 := hide o2; clear o2
    clear d1 d2 d3 d4 d5 d6 d7 d8
    have hb := b1.trans b2
    obtain ⟨d1, d2, d3, d4, d5, d6, d7, d8⟩ := row_cells4 (R2.out.later hb)
    have hrow := R2.out.later hb
    have hL := B0.out.trans hb
    have hs1 := b1.size
    have HR := hide hrow
    clear hrow
    go_wp2_with fail
    refine bodyPost_ret (results_rat rfl rfl (HR.out.four _ _ _ _)) rfl ?_
    have oo := Only.four (w.heap.size + 1) w2 (.bool s2) (.slice P2 q2 e2) (.bool false) (.slice P2' q2' e2')
    exact ⟨_, rfl, (O2.out.only oo (by omega)).weaken (by omega), hL.only oo (by omega)⟩
  · have hq : q = 0 := by rw [HQ.out, ratOf_not hpos]
    subst hq
    go_enter Try.func26, Try.ntmps26
    go_wp2_with fail
    obtain ⟨W0, hW0⟩ : ∃ W0, W0 = ((w.alloc (Obj.cells #[Value.bool sa, Value.slice A1 n1 c1, Value.bool sa', Value.slice A1' n1' c1'] 35)).alloc (Obj.cells #[Value.bool false, Value.slice none 0 0, Value.bool false, Value.slice none 0 0] 35)) := ⟨_, rfl⟩
    obtain ⟨hb0, r1, r2, hsz⟩ := boxes2 w [.bool sa, .slice A1 n1 c1, .bool sa', .slice A1' n1' c1'] [.bool false, .slice none 0 0, .bool false, .slice none 0 0] 35 35 hW0
    rw [← hW0]
    have R1 := hide r1; have R2 := hide r2; have B0 := hide hb0
    clear hW0 r1 r2 hb0
    refine (may_calls _ sa _ undef _ _ _ sa' y k (HY.out.later B0.out) ⟨_, _, _, rfl⟩ (by omega)).mono ?_
    rintro e w1 ⟨rfl, b1⟩
    rw [show decide (0 < y) = false by simpa using hpos]
    go_wp2_with fail
    refine (zero_calls _).mono ?_
    rintro e w2 ⟨v2, rfl, o2, b2⟩
    obtain ⟨s2, P2, q2, e2, P2', q2', e2', rfl, o2⟩ := o2.open_; have O2 := hide o2; clear o2
    have hb := b1.trans b2
    obtain ⟨d1, d2, d3, d4, d5, d6, d7, d8⟩ := row_cells4 (R2.out.later hb)
    have hL := B0.out.trans hb
    have hs1 := b1.size
    have HR := hide (R2.out.later hb)
    go_wp2_with fail
    refine bodyPost_ret (results_rat rfl rfl (HR.out.four _ _ _ _)) rfl ?_
    have oo := Only.four (w.heap.size + 1) w2 (.bool s2) (.slice P2 q2 e2) (.bool false) (.slice P2' q2' e2')
    exact ⟨_, rfl, (O2.out.only oo (by omega)).weaken (by omega), hL.only oo (by omega)⟩

end Go.Proofs.Ytbhohnhkephefaa
