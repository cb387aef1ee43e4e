/- Rows of fractions: AddTimes. -/
import Derived.Test.YtkendajmnmchoaaM11
set_option linter.unusedVariables false
set_option linter.unusedSimpArgs false
set_option maxRecDepth 100000
namespace Go.Proofs.Ytkendajmnmchoaa
open Go.RowKit Go.Shelf
attribute [local go_sem ↓] Go.wp_at_zero Go.wp_at_succ

theorem rawR_len {w : World} {s s' : Bool} {A A' : Option Addr} {n c n' c' k : Nat} {q : Rat} (h : RawR w (.agg #[.bool s, .slice A n c, .bool s', .slice A' n' c']) q k) (h0 : n = 0) : q = 0 := by
  subst h0
  obtain ⟨a, A1, n1, c1, b, A2, n2, c2, x, y, e, h1, h2, rfl⟩ := h
  injection e with e; injection e with e; injection e with e1 e; injection e with e2 e
  obtain ⟨neg, A3, n3, c3, l, e3, hu, hz, hl⟩ := h1
  injection e3 with e3; injection e3 with e3; injection e3 with e4 e3; injection e3 with e5 e3
  obtain ⟨A4, c4, e6, -, -, -, -⟩ := hu.form
  rw [← e5, ← e2] at e6
  injection e6 with _ e7 _
  have hl0 : l = [] := List.eq_nil_of_length_eq_zero e7.symm
  subst hl0
  have hx0 : x = 0 := by rw [hz]; cases neg <;> rfl
  rw [hx0]
  by_cases hy : 0 < y
  · rw [ratOf_pos hy, Rat.divInt_eq_div]; simp [Rat.div_def]
  · exact ratOf_not hy

set_option maxHeartbeats 4000000 in
theorem at1_calls (w : World) (va vb : Value) (a b q : Rat) (k m p : Nat) (ha : RawR w va a k) (hb : RawR w vb b m) (G : Nat) (sk sk' : Bool) (A3 A3' : Option Addr) (n3 c3 n3' c3' : Nat)
    (hrow : Row w G 27 [.bool sk, .slice A3 n3 c3, .bool sk', .slice A3' n3' c3']) (hq : RawR w (.agg #[.bool sk, .slice A3 n3 c3, .bool sk', .slice A3' n3' c3']) q p) (hkm : k + m + p ≤ 100000000) :
    Calls Try.prog 49 #[va, vb, .pointer (some ⟨G, 0, none⟩)] w (Ret w fun w' v => OwnR w' w.heap.size v (a + q * b)) := by
  have HA := hide ha; have HB := hide hb; have HQ := hide hq
  obtain ⟨sx, A1, n1, c1, sx', A1', n1', c1', rfl⟩ := ha.open_
  obtain ⟨sy, A2, n2, c2, sy', A2', n2', c2', rfl⟩ := hb.open_
  obtain ⟨z, hz⟩ : ∃ z, z = a + q * b := ⟨_, rfl⟩
  rw [← hz]
  have hgl := hrow.lt
  obtain ⟨W0, hW0⟩ : ∃ W0, W0 = (((w.alloc (Obj.cells #[Value.bool sx, Value.slice A1 n1 c1, Value.bool sx', Value.slice A1' n1' c1'] 27)).alloc (Obj.cells #[Value.bool sy, Value.slice A2 n2 c2, Value.bool sy', Value.slice A2' n2' c2'] 27)).alloc (Obj.cells #[Value.bool false, Value.slice none 0 0, Value.bool false, Value.slice none 0 0] 27)) := ⟨_, rfl⟩
  obtain ⟨hb0, r1, r2, r3, hsz⟩ := boxes3 w [.bool sx, .slice A1 n1 c1, .bool sx', .slice A1' n1' c1'] [.bool sy, .slice A2 n2 c2, .bool sy', .slice A2' n2' c2'] [.bool false, .slice none 0 0, .bool false, .slice none 0 0] 27 27 27 hW0
  have r0 := hrow.later hb0
  obtain ⟨d1, d2, d3, d4, d5, d6, d7, d8⟩ := row_cells4 r0
  obtain ⟨f1, f2, f3, f4, f5, f6, f7, f8⟩ := row_cells4 r2
  rw [hW0] at d1 d2 d3 d4 d5 d6 d7 d8 f1 f2 f3 f4 f5 f6 f7 f8
  have HW0 := hide hW0; have B0 := hide hb0; have R0 := hide r0; have R1 := hide r1; have R2 := hide r2; have R3 := hide r3
  by_cases hz0 : n3 = 0 ∨ n2 = 0
  · have hza : z = a := by
      rcases hz0 with h0 | h0
      · rw [hz, rawR_len hq h0]; grind
      · rw [hz, rawR_len hb h0]; grind
    subst hza
    have hcase : (n3 = 0) ∨ (((n3 : Int) == 0) = false ∧ n2 = 0) := by
      rcases hz0 with h0 | h0
      · exact .inl h0
      · by_cases h3 : n3 = 0
        · exact .inl h3
        · exact .inr ⟨by simp; omega, h0⟩
    clear hz0 hz ha hb hq hrow r0 r1 r2 r3 hb0 hW0
    rcases hcase with h0 | ⟨h0, h1⟩
    · have h00 := hide h0
      subst h0
      go_enter Try.func49, Try.ntmps49
      go_upto_region 2 with fail
      rw [← HW0.out]
      clear d1 d2 d3 d4 d5 d6 d7 d8 f1 f2 f3 f4 f5 f6 f7 f8
      obtain ⟨d1, d2, d3, d4, d5, d6, d7, d8⟩ := row_cells4 R1.out
      go_wp2_with fail
      refine (rplain_calls _ _ z k (HA.out.later B0.out) (by omega)).mono ?_
      rintro e w1 ⟨v1, rfl, o1, b1⟩
      obtain ⟨s1, P1, q1, e1, P1', q1', e1', rfl, o1⟩ := o1.open_; have O1 := hide o1; clear o1
      have HR := hide (R3.out.later b1)
      have hs1 := b1.size
      have hL := B0.out.trans b1
      clear d1 d2 d3 d4 d5 d6 d7 d8
      obtain ⟨d1, d2, d3, d4, d5, d6, d7, d8⟩ := row_cells4 HR.out
      go_wp2_with fail
      refine bodyPost_ret (results_rat rfl rfl (HR.out.four _ _ _ _)) rfl ?_
      have oo := Only.four (w.heap.size + 2) w1 (.bool s1) (.slice P1 q1 e1) (.bool false) (.slice P1' q1' e1')
      exact ⟨_, rfl, (O1.out.only oo (by omega)).weaken (by omega), hL.only oo (by omega)⟩
    · have h00 := hide h1
      subst h1
      go_enter Try.func49, Try.ntmps49
      go_upto_region 2 with fail
      rw [← HW0.out]
      clear d1 d2 d3 d4 d5 d6 d7 d8 f1 f2 f3 f4 f5 f6 f7 f8
      obtain ⟨d1, d2, d3, d4, d5, d6, d7, d8⟩ := row_cells4 R1.out
      go_wp2_with fail
      refine (rplain_calls _ _ z k (HA.out.later B0.out) (by omega)).mono ?_
      rintro e w1 ⟨v1, rfl, o1, b1⟩
      obtain ⟨s1, P1, q1, e1, P1', q1', e1', rfl, o1⟩ := o1.open_; have O1 := hide o1; clear o1
      have HR := hide (R3.out.later b1)
      have hs1 := b1.size
      have hL := B0.out.trans b1
      clear d1 d2 d3 d4 d5 d6 d7 d8
      obtain ⟨d1, d2, d3, d4, d5, d6, d7, d8⟩ := row_cells4 HR.out
      go_wp2_with fail
      refine bodyPost_ret (results_rat rfl rfl (HR.out.four _ _ _ _)) rfl ?_
      have oo := Only.four (w.heap.size + 2) w1 (.bool s1) (.slice P1 q1 e1) (.bool false) (.slice P1' q1' e1')
      exact ⟨_, rfl, (O1.out.only oo (by omega)).weaken (by omega), hL.only oo (by omega)⟩
  · have t1 : ((n3 : Int) == 0) = false := by simp; omega
    have t2 : ((n2 : Int) == 0) = false := by simp; omega
    have HZ := hide hz
    have SQ := hq.sized; have SB := hb.sized
    have SM := hide ((SQ.mul SB).mono (by omega : p + 1 + (m + 1) ≤ p + m + 2))
    have D0 : Hid (Later W0 W0.drew) := hide (Later.refl W0).drew
    have r1 := r1.drew; have r2 := r2.drew; have r0 := r0.drew
    have HT1 : Hid (∀ w', Later W0.drew w' → w'.cell? ⟨w.heap.size, 0, none⟩ = some (.bool sx) ∧ w'.cell? ⟨w.heap.size, 1, none⟩ = some (.slice A1 n1 c1) ∧ w'.cell? ⟨w.heap.size, 2, none⟩ = some (.bool sx') ∧ w'.cell? ⟨w.heap.size, 3, none⟩ = some (.slice A1' n1' c1') ∧ w'.cell? ⟨w.heap.size + 1, 0, none⟩ = some (.bool sy) ∧ w'.cell? ⟨w.heap.size + 1, 1, none⟩ = some (.slice A2 n2 c2) ∧ w'.cell? ⟨w.heap.size + 1, 2, none⟩ = some (.bool sy') ∧ w'.cell? ⟨w.heap.size + 1, 3, none⟩ = some (.slice A2' n2' c2') ∧ w'.cell? ⟨G, 0, none⟩ = some (.bool sk) ∧ w'.cell? ⟨G, 1, none⟩ = some (.slice A3 n3 c3) ∧ w'.cell? ⟨G, 2, none⟩ = some (.bool sk') ∧ w'.cell? ⟨G, 3, none⟩ = some (.slice A3' n3' c3')) :=
      hide fun w' hb => ⟨(r1.later hb).cell rfl, (r1.later hb).cell rfl, (r1.later hb).cell rfl, (r1.later hb).cell rfl, (r2.later hb).cell rfl, (r2.later hb).cell rfl, (r2.later hb).cell rfl, (r2.later hb).cell rfl, (r0.later hb).cell rfl, (r0.later hb).cell rfl, (r0.later hb).cell rfl, (r0.later hb).cell rfl⟩
    have HT2 : Hid (∀ w' a_ b_ c_ d_, Later W0.drew w' → ((((w'.setCell ⟨w.heap.size + 2, 0, none⟩ a_).setCell ⟨w.heap.size + 2, 1, none⟩ b_).setCell ⟨w.heap.size + 2, 2, none⟩ c_).setCell ⟨w.heap.size + 2, 3, none⟩ d_).cell? ⟨w.heap.size, 0, none⟩ = some (.bool sx) ∧ ((((w'.setCell ⟨w.heap.size + 2, 0, none⟩ a_).setCell ⟨w.heap.size + 2, 1, none⟩ b_).setCell ⟨w.heap.size + 2, 2, none⟩ c_).setCell ⟨w.heap.size + 2, 3, none⟩ d_).cell? ⟨w.heap.size, 1, none⟩ = some (.slice A1 n1 c1) ∧ ((((w'.setCell ⟨w.heap.size + 2, 0, none⟩ a_).setCell ⟨w.heap.size + 2, 1, none⟩ b_).setCell ⟨w.heap.size + 2, 2, none⟩ c_).setCell ⟨w.heap.size + 2, 3, none⟩ d_).cell? ⟨w.heap.size, 2, none⟩ = some (.bool sx') ∧ ((((w'.setCell ⟨w.heap.size + 2, 0, none⟩ a_).setCell ⟨w.heap.size + 2, 1, none⟩ b_).setCell ⟨w.heap.size + 2, 2, none⟩ c_).setCell ⟨w.heap.size + 2, 3, none⟩ d_).cell? ⟨w.heap.size, 3, none⟩ = some (.slice A1' n1' c1') ∧ ((((w'.setCell ⟨w.heap.size + 2, 0, none⟩ a_).setCell ⟨w.heap.size + 2, 1, none⟩ b_).setCell ⟨w.heap.size + 2, 2, none⟩ c_).setCell ⟨w.heap.size + 2, 3, none⟩ d_).cell? ⟨w.heap.size + 1, 0, none⟩ = some (.bool sy) ∧ ((((w'.setCell ⟨w.heap.size + 2, 0, none⟩ a_).setCell ⟨w.heap.size + 2, 1, none⟩ b_).setCell ⟨w.heap.size + 2, 2, none⟩ c_).setCell ⟨w.heap.size + 2, 3, none⟩ d_).cell? ⟨w.heap.size + 1, 1, none⟩ = some (.slice A2 n2 c2) ∧ ((((w'.setCell ⟨w.heap.size + 2, 0, none⟩ a_).setCell ⟨w.heap.size + 2, 1, none⟩ b_).setCell ⟨w.heap.size + 2, 2, none⟩ c_).setCell ⟨w.heap.size + 2, 3, none⟩ d_).cell? ⟨w.heap.size + 1, 2, none⟩ = some (.bool sy') ∧ ((((w'.setCell ⟨w.heap.size + 2, 0, none⟩ a_).setCell ⟨w.heap.size + 2, 1, none⟩ b_).setCell ⟨w.heap.size + 2, 2, none⟩ c_).setCell ⟨w.heap.size + 2, 3, none⟩ d_).cell? ⟨w.heap.size + 1, 3, none⟩ = some (.slice A2' n2' c2') ∧ ((((w'.setCell ⟨w.heap.size + 2, 0, none⟩ a_).setCell ⟨w.heap.size + 2, 1, none⟩ b_).setCell ⟨w.heap.size + 2, 2, none⟩ c_).setCell ⟨w.heap.size + 2, 3, none⟩ d_).cell? ⟨G, 0, none⟩ = some (.bool sk) ∧ ((((w'.setCell ⟨w.heap.size + 2, 0, none⟩ a_).setCell ⟨w.heap.size + 2, 1, none⟩ b_).setCell ⟨w.heap.size + 2, 2, none⟩ c_).setCell ⟨w.heap.size + 2, 3, none⟩ d_).cell? ⟨G, 1, none⟩ = some (.slice A3 n3 c3) ∧ ((((w'.setCell ⟨w.heap.size + 2, 0, none⟩ a_).setCell ⟨w.heap.size + 2, 1, none⟩ b_).setCell ⟨w.heap.size + 2, 2, none⟩ c_).setCell ⟨w.heap.size + 2, 3, none⟩ d_).cell? ⟨G, 2, none⟩ = some (.bool sk') ∧ ((((w'.setCell ⟨w.heap.size + 2, 0, none⟩ a_).setCell ⟨w.heap.size + 2, 1, none⟩ b_).setCell ⟨w.heap.size + 2, 2, none⟩ c_).setCell ⟨w.heap.size + 2, 3, none⟩ d_).cell? ⟨G, 3, none⟩ = some (.slice A3' n3' c3')) :=
      hide fun w' a_ b_ c_ d_ hb => ⟨((r1.later hb).far4 (by omega) a_ b_ c_ d_).cell rfl, ((r1.later hb).far4 (by omega) a_ b_ c_ d_).cell rfl, ((r1.later hb).far4 (by omega) a_ b_ c_ d_).cell rfl, ((r1.later hb).far4 (by omega) a_ b_ c_ d_).cell rfl, ((r2.later hb).far4 (by omega) a_ b_ c_ d_).cell rfl, ((r2.later hb).far4 (by omega) a_ b_ c_ d_).cell rfl, ((r2.later hb).far4 (by omega) a_ b_ c_ d_).cell rfl, ((r2.later hb).far4 (by omega) a_ b_ c_ d_).cell rfl, ((r0.later hb).far4 (by omega) a_ b_ c_ d_).cell rfl, ((r0.later hb).far4 (by omega) a_ b_ c_ d_).cell rfl, ((r0.later hb).far4 (by omega) a_ b_ c_ d_).cell rfl, ((r0.later hb).far4 (by omega) a_ b_ c_ d_).cell rfl⟩

    have hszd : W0.drew.heap.size = w.heap.size + 3 := hsz
    clear hz0 hz ha hb hq hrow r0 r1 r2 r3 hb0 hW0 SQ SB
    go_enter Try.func49, Try.ntmps49
    go_upto_region 3 with fail
    rw [← HW0.out]
    clear d1 d2 d3 d4 d5 d6 d7 d8 f1 f2 f3 f4 f5 f6 f7 f8
    have B1 := hide (B0.out.trans D0.out)
    have R3d := hide (R3.out.later D0.out)
    go_region_held3 (fun w' => w'.cell? ⟨w.heap.size, 0, none⟩ = some (.bool sx) ∧ w'.cell? ⟨w.heap.size, 1, none⟩ = some (.slice A1 n1 c1) ∧ w'.cell? ⟨w.heap.size, 2, none⟩ = some (.bool sx') ∧ w'.cell? ⟨w.heap.size, 3, none⟩ = some (.slice A1' n1' c1') ∧ w'.cell? ⟨w.heap.size + 1, 0, none⟩ = some (.bool sy) ∧ w'.cell? ⟨w.heap.size + 1, 1, none⟩ = some (.slice A2 n2 c2) ∧ w'.cell? ⟨w.heap.size + 1, 2, none⟩ = some (.bool sy') ∧ w'.cell? ⟨w.heap.size + 1, 3, none⟩ = some (.slice A2' n2' c2') ∧ w'.cell? ⟨G, 0, none⟩ = some (.bool sk) ∧ w'.cell? ⟨G, 1, none⟩ = some (.slice A3 n3 c3) ∧ w'.cell? ⟨G, 2, none⟩ = some (.bool sk') ∧ w'.cell? ⟨G, 3, none⟩ = some (.slice A3' n3' c3'))
      (first | exact HT1.out _ (Later.refl _) | exact HT1.out _ b1 | exact HT1.out _ (b1.trans b2) | exact HT2.out _ _ _ _ _ (b1.trans b2))
      (first
        | ((with_reducible refine (rmul_calls _ _ _ q b p m (HQ.out.later B1.out) (HB.out.later B1.out) (by omega)).mono ?_); rintro e w1 ⟨v1, rfl, o1, b1⟩; obtain ⟨s1, P1, q1, e1, P1', q1', e1', rfl, o1⟩ := o1.open_; have O1 := hide o1; clear o1)
        | ((with_reducible refine (radd_calls _ _ _ a (q * b) k (p + m + 2) (HA.out.later (B1.out.trans b1)) (O1.out.raw SM.out) (by omega)).mono ?_); rintro e w2 ⟨v2, rfl, o2, b2⟩; obtain ⟨s2, P2, q2, e2, P2', q2', e2', rfl, o2⟩ := o2.open_; have O2 := hide o2; clear o2; obtain ⟨f1, f2, f3, f4, f5, f6, f7, f8⟩ := row_cells4 (R3d.out.later (b1.trans b2))))
    have hL := B1.out.trans (b1.trans b2)
    have HR := hide (R3d.out.later (b1.trans b2))
    have hs1 := b1.size; have hs2 := b2.size
    clear f1 f2 f3 f4 f5 f6 f7 f8
    go_wp2_with fail
    refine bodyPost_ret (results_rat rfl rfl (HR.out.four _ _ _ _)) rfl ?_
    have oo := Only.four (w.heap.size + 2) w2 (.bool s2) (.slice P2 q2 e2) (.bool false) (.slice P2' q2' e2')
    exact ⟨_, rfl, by rw [HZ.out]; exact (O2.out.only oo (by omega)).weaken (by omega), hL.only oo (by omega)⟩

/-- the k-th by k: one and so many times the other -/
def axpyL (a b : List Rat) (q : Rat) : List Rat := List.zipWith (fun x y => x + q * y) a b

set_option maxHeartbeats 2000000 in
theorem addtimes_calls (w : World) (va vb vk : Value) (a b : List Rat) (q : Rat) (k m p : Nat) (ha : Rats (ERaw k) w va a) (hb : Rats (ERaw m) w vb b) (hq : RawR w vk q p) (hlen : a.length = b.length) (hl9 : a.length ≤ 1000000000) (hkm : k + m + p ≤ 100000000) :
    Calls Try.prog 17 #[va, vb, vk] w (Ret2 w fun w' v o => OwnRats w' w.heap.size v (axpyL a b q) ∧ o = .bool true) := by
  have HA := hide ha; have HB := hide hb; have HQ := hide hq; have HLEN := hide hlen
  obtain ⟨A0, na, ca, rfl, hna, -⟩ := ha.form
  obtain ⟨B0, nb, cb, rfl, hnb, -⟩ := hb.form
  obtain ⟨sk, A3, n3, c3, sk', A3', n3', c3', rfl⟩ := hq.open_
  have hnn : na = nb := by omega
  subst hnn
  have t1 : ((na : Int) != na) = false := by simp
  clear ha hb hq hlen hna hnb
  go_enter Try.func17, Try.ntmps17
  go_wp2_with fail
  have hL : Later w (w.alloc (Obj.cells #[Value.bool sk, Value.slice A3 n3 c3, Value.bool sk', Value.slice A3' n3' c3'] 27)) := (Later.refl w).alloc _
  have hrow := Row.new w 27 [.bool sk, .slice A3 n3 c3, .bool sk', .slice A3' n3' c3']
  have HR := hide hrow; have HL := hide hL
  clear hrow hL
  refine (pairs1_calls _ _ _ a b (ERaw k) (ERaw m) ERaw.later ERaw.later (HA.out.later ERaw.later HL.out) (HB.out.later ERaw.later HL.out) (by rw [HLEN.out]; exact Nat.le_refl _) hl9 _ ⟨fun _ _ => by kernel_rfl⟩ w.heap.size (fun x y => x + q * y)
    (fun W vx vy x y hW hx hy _ _ => at1_calls W vx vy x y q k m p hx hy w.heap.size sk sk' A3 A3' n3 c3 n3' c3' (HR.out.later hW) (HQ.out.later (HL.out.trans hW)) hkm)).mono ?_
  rintro e w1 ⟨v1, rfl, o1, b1⟩
  have O1 := hide (OwnRats.weaken o1 HL.out.size); clear o1
  have hLL := HL.out.trans b1
  go_wp2_with fail
  go_ret2
  exact ⟨_, _, rfl, ⟨O1.out, rfl⟩, hLL⟩
end Go.Proofs.Ytkendajmnmchoaa

/- Rows of fractions: Dot. -/
set_option linter.unusedVariables false
set_option linter.unusedSimpArgs false
set_option maxRecDepth 100000
namespace Go.Proofs.Ytkendajmnmchoaa
open Go.RowKit Go.Shelf
attribute [local go_sem ↓] Go.wp_at_zero Go.wp_at_succ

/-- the sum -/
def sumR (l : List Rat) : Rat := l.foldl (· + ·) 0
theorem sumR_snoc (l : List Rat) (x : Rat) : sumR (l ++ [x]) = sumR l + x := by simp [sumR, List.foldl_append]
theorem sumR_nil : sumR [] = 0 := rfl
theorem sized_sumR {l : List Rat} {K : Nat} (h : ∀ q ∈ l, Sized q K) : Sized (sumR l) (l.length * (K + 1) + 1) := by
  obtain ⟨r, hr⟩ : ∃ r, r = l.reverse := ⟨_, rfl⟩
  have hl : l = r.reverse := by rw [hr, List.reverse_reverse]
  subst hl
  clear hr
  induction r with
  | nil => exact (Sized.zero 0).mono (by simp)
  | cons x r ih =>
    rw [List.reverse_cons, sumR_snoc]
    refine (Sized.add (ih fun q hq => h q (by rw [List.reverse_cons]; exact List.mem_append_left _ hq)) (h x (by simp))).mono ?_
    simp only [List.length_append, List.length_reverse, List.length_singleton, Nat.add_mul, Nat.one_mul]
    omega
theorem Rats.sized {k : Nat} {w : World} {v : Value} {l : List Rat} (h : Rats (ERaw k) w v l) : ∀ q ∈ l, Sized q (k+1) := by
  intro q hq
  obtain ⟨i, hi⟩ := List.getElem?_of_mem hq
  obtain ⟨A, c, e, -, -, h3⟩ := h
  obtain ⟨b, off, s, A1, n1, c1, s', A2, n2, c2, -, -, -, -, -, hE⟩ := h3 i q hi
  exact RawR.sized hE
theorem sized_zip {a b : List Rat} {k m : Nat} (ha : ∀ q ∈ a, Sized q k) (hb : ∀ q ∈ b, Sized q m) : ∀ q ∈ List.zipWith (fun x y => x * y) a b, Sized q (k + m) := by
  induction a generalizing b with
  | nil => simp
  | cons x a ih => cases b with
    | nil => simp
    | cons y b =>
      intro q hq
      rw [List.zipWith_cons_cons] at hq
      rcases List.mem_cons.1 hq with rfl | hq
      · exact (ha x (List.mem_cons_self ..)).mul (hb y (List.mem_cons_self ..))
      · exact ih (fun q h => ha q (List.mem_cons_of_mem _ h)) (fun q h => hb q (List.mem_cons_of_mem _ h)) q hq
/-- the sum of the products -/
def dotL (a b : List Rat) : Rat := sumR (List.zipWith (fun x y => x * y) a b)

theorem Own32.of_agree {T : TypeId} {w : World} {P : Nat → Prop} {B : Nat} {v : Value} {l : List Nat} (h : On w P (fun W => Own32 T W 0 v l)) (hP : ∀ b, P b → B ≤ b) : Own32 T w B v l := by
  obtain ⟨h1, h2, h3⟩ := h.now
  refine ⟨h1, h2, ?_⟩
  rcases h3 with h3 | ⟨g, cap, cur, rfl, hb, hg, r⟩
  · exact .inl h3
  · refine .inr ⟨g, cap, cur, rfl, ?_, hg, r⟩
    obtain ⟨F, f1, f2⟩ := h
    by_cases hF : F g
    · exact hP g (f1 g hF).1
    · -- the block may be taken away, and the fact must stand all the same: it can't
      exfalso
      have h4 := f2 { w with heap := w.heap.set g (.cells #[] T (0, 1)) (by have := Array.getElem?_eq_some_iff.1 hg; exact this.1) } (fun b hb => by
        have hne : g ≠ b := fun e => hF (e ▸ hb)
        simp [Array.getElem?_set, hne])
      obtain ⟨-, -, h5⟩ := h4
      rcases h5 with ⟨h5, -⟩ | ⟨g', cap', cur', e, hb', hg', r'⟩
      · cases h5
      · injection e with e1 e2 e3
        injection e1 with e1; injection e1 with e1
        subst e1
        simp at hg'
theorem OwnR.of_on {w : World} {P : Nat → Prop} {B : Nat} {v : Value} {q : Rat} (h : On w P (fun W => OwnR W 0 v q)) (hP : ∀ b, P b → B ≤ b) : OwnR w B v q := by
  obtain ⟨A, n, c, A', n', c', e, h1, h2⟩ := h.now
  subst e
  refine ⟨A, n, c, A', n', c', rfl, Own32.of_agree (h.map fun W hW => ?_) hP, Own32.of_agree (h.map fun W hW => ?_) hP⟩
  · have := hW.num.own; exact this
  · have := hW.den.own; rw [Int.natAbs_natCast] at this; exact this
/-- what a round of Dot holds -/
def DotAt (w : World) (g : Nat) (ps : List Rat) (pv : Value) (k : Nat) (wr : World) : Prop :=
  ∃ s A n c A' n' c', Row wr g 27 [.bool s, .slice A n c, .bool false, .slice A' n' c'] ∧ On wr (fun b => w.heap.size < b ∧ b ≠ g) (fun W => OwnR W 0 (.agg #[.bool s, .slice A n c, .bool false, .slice A' n' c']) (sumR (ps.take k))) ∧
    On wr (fun b => w.heap.size < b ∧ b ≠ g) (fun W => Rats EOwn W pv ps) ∧ Row wr w.heap.size 27 [.bool false, .slice none 0 0, .bool false, .slice none 0 0] ∧ Later w wr ∧ w.heap.size < g

set_option maxHeartbeats 4000000 in
theorem dot_calls (w : World) (va vb : Value) (a b : List Rat) (k m : Nat) (ha : Rats (ERaw k) w va a) (hb : Rats (ERaw m) w vb b) (hlen : a.length = b.length) (hsz : (a.length + 1) * (k + m + 4) ≤ 50000000) :
    Calls Try.prog 15 #[va, vb] w (Ret2 w fun w' v o => OwnR w' w.heap.size v (dotL a b) ∧ o = .bool true) := by
  have HA := hide ha; have HB := hide hb; have HLEN := hide hlen
  have hKM := Nat.mul_le_mul (Nat.le_add_left 1 a.length) (Nat.le_refl (k + m + 4))
  have hl9 : a.length ≤ 50000000 := by
    have h := Nat.mul_le_mul (Nat.le_add_right a.length 1) (show 1 ≤ k + m + 4 by omega)
    omega
  have hkm : k + m + 4 ≤ 50000000 := by omega
  obtain ⟨A0, na, ca, rfl, hna, -⟩ := ha.form
  obtain ⟨B0, nb, cb, rfl, hnb, -⟩ := hb.form
  have hnn : na = nb := by omega
  subst hnn
  have hna9 : na ≤ 50000000 := by omega
  have t1 : ((na : Int) != na) = false := by simp
  have hSP := sized_zip ha.sized hb.sized
  obtain ⟨ps, hps⟩ : ∃ ps, ps = List.zipWith (fun x y => x * y) a b := ⟨_, rfl⟩
  have hpl : ps.length = na := by rw [hps, List.length_zipWith, ← hlen]; omega
  obtain ⟨z, hz⟩ : ∃ z, z = dotL a b := ⟨_, rfl⟩
  rw [← hz]
  have hz2 : z = sumR ps := by rw [hz, hps]; rfl
  rw [← hps] at hSP
  have HZ := hide hz2; have HPS := hide hps; have HSP := hide hSP; have HPL := hide hpl
  have HSZ : Hid (∀ j, j ≤ na → Sized (sumR (ps.take j)) 50000000 ∧ (ps.take j).length * (k + 1 + (m + 1) + 1) + 1 ≤ 50000000) := hide (by
    intro j hj
    have h1 : (ps.take j).length * (k + 1 + (m + 1) + 1) + 1 ≤ 50000000 := by
      have h2 : (ps.take j).length ≤ a.length := by rw [List.length_take]; omega
      have h3 := Nat.mul_le_mul h2 (show k + 1 + (m + 1) + 1 ≤ k + m + 4 by omega)
      rw [Nat.add_mul] at hsz
      omega
    exact ⟨(sized_sumR (K := k + 1 + (m + 1)) fun q hq => hSP q (List.mem_of_mem_take hq)).mono h1, h1⟩)
  clear ha hb hlen hna hz hz2 hps hSP hpl hnb hsz hKM
  obtain ⟨W0, hW0⟩ : ∃ W0, W0 = w.alloc (Obj.cells #[Value.bool false, Value.slice none 0 0, Value.bool false, Value.slice none 0 0] 27) := ⟨_, rfl⟩
  obtain ⟨hb0, r1, hsz0⟩ := boxes1 w [.bool false, .slice none 0 0, .bool false, .slice none 0 0] 27 hW0
  have R1 := hide r1; have B0' := hide hb0; have HW0 := hide hW0
  clear r1 hb0 hW0
  go_enter Try.func15, Try.ntmps15
  go_wp2_with fail
  rw [← HW0.out]
  refine (lzero_calls _).mono ?_
  rintro e w1 ⟨v1, rfl, o1, b1⟩
  obtain ⟨s1, P1, q1, e1, P1', q1', e1', rfl, o1⟩ := o1.open_; have O1 := hide o1; clear o1
  have hs1 := b1.size
  go_wp2_with fail
  obtain ⟨V1, hV1⟩ : ∃ V1, V1 = w1.alloc (Obj.cells #[Value.bool s1, Value.slice P1 q1 e1, Value.bool false, Value.slice P1' q1' e1'] 27) := ⟨_, rfl⟩
  have c1' : Later w1 V1 := by rw [hV1]; exact (Later.refl w1).alloc _
  have x1 : Row V1 w1.heap.size 27 [.bool s1, .slice P1 q1 e1, .bool false, .slice P1' q1' e1'] := by rw [hV1]; exact Row.new w1 _ _
  have hsV1 : V1.heap.size = w1.heap.size + 1 := by rw [hV1]; simp
  rw [← hV1]
  have X1 := hide x1; have C1 := hide c1'
  have hL1 := (B0'.out.trans b1).trans c1'
  clear hV1 x1 c1'
  refine (pairs0_calls _ _ _ a b (ERaw k) (ERaw m) ERaw.later ERaw.later (HA.out.later ERaw.later hL1) (HB.out.later ERaw.later hL1) (by rw [HLEN.out]; exact Nat.le_refl _) (by omega) _ ⟨fun _ _ => by kernel_rfl⟩ (fun x y => x * y)
    (fun W vx vy x y hW hx hy _ _ => rmul_calls W vx vy x y k m hx hy (by omega))).mono ?_
  rintro e w2 ⟨v2, rfl, o2, b2⟩
  rw [← HPS.out] at o2
  obtain ⟨P0, np, cp, rfl, hnp, -, -, -⟩ := o2.now.form
  have hnp2 : np = na := by rw [hnp, HPL.out]
  subst hnp2
  have hs2 := b2.size
  have HD : Hid (DotAt w w1.heap.size ps (.slice P0 np cp) 0 w2) := hide ⟨s1, P1, q1, e1, P1', q1', e1', X1.out.later b2, (((On.ownR O1.out).mono (fun b hb hlt => ⟨by omega, by omega⟩)).later C1.out).later b2, On.mono o2 (fun b hb _ => ⟨by omega, by omega⟩), R1.out.later ((b1.trans C1.out).trans b2), hL1.trans b2, by omega⟩
  clear o2 hnp hL1
  go_wp2_with fail
  go_loopw [20] (fun i wr => ∃ j : Nat, j ≤ np ∧ i = .int .i64 (j : Int) ∧ Hid (DotAt w w1.heap.size ps (.slice P0 np cp) j wr)) (fun i _ => (np - intOf i).toNat)
  case atStart => exact ⟨0, by omega, rfl, HD⟩
  case round =>
    obtain ⟨j, hj, rfl, hrel⟩ := hrel
    obtain ⟨s, A, n, c, A', n', c', rg, os, op, r1, hL, hgB⟩ := hrel.out
    by_cases hjn : j < np
    · obtain ⟨x, hx⟩ : ∃ x, ps[j]? = some x := ⟨ps[j]'(by rw [HPL.out]; exact hjn), List.getElem?_eq_getElem _⟩
      obtain ⟨b', off', sx, A1, n1, c1, sx', A2, n2, c2, rfl, x1, x2, x3, x4, ex⟩ := op.now.at_ hx
      have ex' : OwnR wr 0 (.agg #[.bool sx, .slice A1 n1 c1, .bool sx', .slice A2 n2 c2]) x := ex
      have hsx : sx' = false := by have := ex'.den.sign; rw [this]; simp
      subst hsx
      have hln := ex'.num.len
      have hsum : sumR (ps.take (j+1)) = sumR (ps.take j) + x := by
        rw [List.take_add_one, hx]; exact sumR_snoc _ _
      have HSUM := hide hsum; have EX := hide ex'; have RG := hide rg; have OS := hide os; have OP := hide op; have R1' := hide r1; have HL := hide hL
      have hxs := HSP.out x (List.mem_of_getElem? hx)
      have HXS := hide hxs
      have hszj := (HSZ.out j hj).1
      have HSJ := hide hszj
      have hsizes := rg.lt
      have hj0 : (0 : Int) ≤ (j : Int) := by omega
      have hj1 : (j : Int) < np := by omega
      by_cases hz0 : 0 < n1
      · have t2 : decide (0 < n1) = true := by simpa using hz0
        obtain ⟨d1, d2, d3, d4, d5, d6, d7, d8⟩ := row_cells4 (rg.alloc (Obj.cells #[Value.bool sx, Value.slice A1 n1 c1, Value.bool false, Value.slice A2 n2 c2] 27))
        clear rg os op r1 hL hrel hx hln hsum hxs hszj ex ex'
        go_wp2_with fail
        obtain ⟨V2, hV2⟩ : ∃ V, V = wr.alloc (Obj.cells #[Value.bool sx, Value.slice A1 n1 c1, Value.bool false, Value.slice A2 n2 c2] 27) := ⟨_, rfl⟩
        have c2' : Later wr V2 := by rw [hV2]; exact (Later.refl wr).alloc _
        have hsV2 : V2.heap.size = wr.heap.size + 1 := by rw [hV2]; simp
        rw [← hV2]
        clear hV2 d1 d2 d3 d4 d5 d6 d7 d8 x1 x2 x3 x4
        refine (radd_calls _ _ _ (sumR (ps.take j)) x 50000000 (k + 1 + (m + 1)) ((OS.out.now.raw HSJ.out).later c2') ((EX.out.raw HXS.out).later c2') (by omega)).mono ?_
        rintro e w5 ⟨v5, rfl, o5, b5⟩
        obtain ⟨s5, P5, q5, e5, P5', q5', e5', rfl, o5⟩ := o5.open_; have O5 := hide o5; clear o5
        have k5 := c2'.trans b5
        obtain ⟨d1, d2, d3, d4, d5, d6, d7, d8⟩ := row_cells4 (RG.out.later k5)
        have HRG := hide (RG.out.later k5)
        have hs5 := k5.size
        have HD2 : Hid (DotAt w w1.heap.size ps (.slice (some ⟨b', off', none⟩) np cp) (j+1) ((((w5.setCell ⟨w1.heap.size, 0, none⟩ (.bool s5)).setCell ⟨w1.heap.size, 1, none⟩ (.slice P5 q5 e5)).setCell ⟨w1.heap.size, 2, none⟩ (.bool false)).setCell ⟨w1.heap.size, 3, none⟩ (.slice P5' q5' e5'))) := hide (by
          have oo := Only.four w1.heap.size w5 (.bool s5) (.slice P5 q5 e5) (.bool false) (.slice P5' q5' e5')
          refine ⟨_, _, _, _, _, _, _, HRG.out.four _ _ _ _, ?_, (OP.out.later k5).only oo (by simp), (R1'.out.later k5).only oo (by omega), (HL.out.trans k5).only oo (by omega), hgB⟩
          rw [HSUM.out]
          exact ((On.ownR O5.out).mono (fun b hb _ => ⟨by omega, by omega⟩)).only oo (by simp))
        clear k5 c2' b5
        go_wp2_with fail
        exact ⟨⟨j+1, by omega, by go_num, HD2⟩, by simp [intOf]; omega⟩
      · have hn0 : n1 = 0 := by omega
        have hx0 : x = 0 := by
          apply Rat.num_eq_zero.1
          have : limbs x.num.natAbs = [] := List.eq_nil_of_length_eq_zero (by omega)
          have := limbs_eq_nil.1 this
          omega
        subst hn0
        have HD2 : Hid (DotAt w w1.heap.size ps (.slice (some ⟨b', off', none⟩) np cp) (j+1) (wr.alloc (Obj.cells #[Value.bool sx, Value.slice A1 0 c1, Value.bool false, Value.slice A2 n2 c2] 27))) := hide (by
          refine ⟨_, _, _, _, _, _, _, RG.out.alloc _, ?_, OP.out.later ((Later.refl _).alloc _), R1'.out.alloc _, HL.out.alloc _, hgB⟩
          rw [HSUM.out, hx0, Rat.add_zero]
          exact OS.out.later ((Later.refl _).alloc _))
        clear rg os op r1 hL hrel hx hln hsum hxs hszj ex ex' hx0
        go_wp2_with fail
        exact ⟨⟨j+1, by omega, by go_num, HD2⟩, by simp [intOf]; omega⟩
    · obtain rfl : j = np := by omega
      rw [List.take_of_length_le (by rw [HPL.out]; exact Nat.le_refl _), ← HZ.out] at os
      obtain ⟨d1, d2, d3, d4, d5, d6, d7, d8⟩ := row_cells4 rg
      obtain ⟨f1, f2, f3, f4, f5, f6, f7, f8⟩ := row_cells4 r1
      have HR := hide r1; have OS := hide os
      clear rg os op r1 hrel
      go_wp2_with fail
      refine bodyPost_ret (results_rat_bool rfl rfl rfl (HR.out.four _ _ _ _)) rfl ?_
      have oo := Only.four w.heap.size wr (.bool s) (.slice A n c) (.bool false) (.slice A' n' c')
      exact ⟨_, _, rfl, ⟨OwnR.of_on (OS.out.only oo (by omega)) (fun b h => by omega), rfl⟩, hL.only oo (Nat.le_refl _)⟩
end Go.Proofs.Ytkendajmnmchoaa

/- Rows of fractions: the reference's Dot, AddTimes. -/
set_option linter.unusedVariables false
set_option linter.unusedSimpArgs false
set_option maxRecDepth 100000
namespace Go.Proofs.Ytkendajmnmchoaa
open Go.RowKit Go.Shelf
attribute [local go_sem ↓] Go.wp_at_zero Go.wp_at_succ

/-- what a round of the reference's Dot holds -/
def RDotAt (w : World) (g : Nat) (ps : List Rat) (k : Nat) (wr : World) : Prop :=
  ∃ s A n c A' n' c', Row wr g 27 [.bool s, .slice A n c, .bool false, .slice A' n' c'] ∧ On wr (fun b => w.heap.size < b ∧ b ≠ g) (fun W => OwnR W 0 (.agg #[.bool s, .slice A n c, .bool false, .slice A' n' c']) (sumR (ps.take k))) ∧
    Row wr w.heap.size 27 [.bool false, .slice none 0 0, .bool false, .slice none 0 0] ∧ Later w wr ∧ w.heap.size < g

set_option maxHeartbeats 4000000 in
theorem qdot_calls (w : World) (va vb : Value) (a b : List Rat) (k m : Nat) (ha : Rats (ERaw k) w va a) (hb : Rats (ERaw m) w vb b) (hlen : a.length = b.length) (hsz : (a.length + 1) * (k + m + 4) ≤ 20000000) :
    Calls Try.prog 16 #[va, vb] w (Ret2 w fun w' v o => OwnR w' w.heap.size v (dotL a b) ∧ o = .bool true) := by
  have HA := hide ha; have HB := hide hb; have HLEN := hide hlen
  have hKM := Nat.mul_le_mul (Nat.le_add_left 1 a.length) (Nat.le_refl (k + m + 4))
  have hl9 : a.length ≤ 20000000 := by
    have h := Nat.mul_le_mul (Nat.le_add_right a.length 1) (show 1 ≤ k + m + 4 by omega)
    omega
  have hkm : k + m + 4 ≤ 20000000 := by omega
  obtain ⟨A0, na, ca, rfl, hna, -⟩ := ha.form
  obtain ⟨B0, nb, cb, rfl, hnb, -⟩ := hb.form
  have hnn : na = nb := by omega
  subst hnn
  have hna9 : na ≤ 20000000 := by omega
  have t1 : ((na : Int) != na) = false := by simp
  have hSP := sized_zip ha.sized hb.sized
  obtain ⟨ps, hps⟩ : ∃ ps, ps = List.zipWith (fun x y => x * y) a b := ⟨_, rfl⟩
  have hpl : ps.length = na := by rw [hps, List.length_zipWith, ← hlen]; omega
  obtain ⟨z, hz⟩ : ∃ z, z = dotL a b := ⟨_, rfl⟩
  rw [← hz]
  have hz2 : z = sumR ps := by rw [hz, hps]; rfl
  rw [← hps] at hSP
  have HZ := hide hz2; have HPS := hide hps; have HSP := hide hSP; have HPL := hide hpl; have HNA := hide hna; have HNB := hide hnb
  have HSZ : Hid (∀ j, j ≤ na → Sized (sumR (ps.take j)) 20000000) := hide (by
    intro j hj
    have h1 : (ps.take j).length * (k + 1 + (m + 1) + 1) + 1 ≤ 20000000 := by
      have h2 : (ps.take j).length ≤ a.length := by rw [List.length_take]; omega
      have h3 := Nat.mul_le_mul h2 (show k + 1 + (m + 1) + 1 ≤ k + m + 4 by omega)
      rw [Nat.add_mul] at hsz
      omega
    exact (sized_sumR (K := k + 1 + (m + 1)) fun q hq => hSP q (List.mem_of_mem_take hq)).mono h1)
  clear ha hb hlen hna hz hz2 hps hSP hpl hnb hsz hKM
  obtain ⟨W0, hW0⟩ : ∃ W0, W0 = w.alloc (Obj.cells #[Value.bool false, Value.slice none 0 0, Value.bool false, Value.slice none 0 0] 27) := ⟨_, rfl⟩
  obtain ⟨hb0, r1, hsz0⟩ := boxes1 w [.bool false, .slice none 0 0, .bool false, .slice none 0 0] 27 hW0
  have R1 := hide r1; have B0' := hide hb0; have HW0 := hide hW0
  clear r1 hb0 hW0
  go_enter Try.func16, Try.ntmps16
  go_wp2_with fail
  rw [← HW0.out]
  refine (qzero_calls _).mono ?_
  rintro e w1 ⟨v1, rfl, o1, b1⟩
  obtain ⟨s1, P1, q1, e1, P1', q1', e1', rfl, o1⟩ := o1.open_; have O1 := hide o1; clear o1
  have hs1 := b1.size
  have HD : Hid (RDotAt w w1.heap.size ps 0 (w1.alloc (Obj.cells #[Value.bool s1, Value.slice P1 q1 e1, Value.bool false, Value.slice P1' q1' e1'] 27))) := hide ⟨s1, P1, q1, e1, P1', q1', e1', Row.new w1 27 [.bool s1, .slice P1 q1 e1, .bool false, .slice P1' q1' e1'], ((On.ownR O1.out).mono (fun b hb hlt => ⟨by omega, by omega⟩)).later ((Later.refl _).alloc _), R1.out.later (b1.alloc _), (B0'.out.trans b1).alloc _, by omega⟩
  go_wp2_with fail
  go_loopw [7] (fun i wr => ∃ j : Nat, j ≤ na ∧ i = .int .i64 (j : Int) ∧ Hid (RDotAt w w1.heap.size ps j wr)) (fun i _ => (na - intOf i).toNat)
  case atStart => exact ⟨0, by omega, rfl, HD⟩
  case round =>
    obtain ⟨j, hj, rfl, hrel⟩ := hrel
    obtain ⟨s, A, n, c, A', n', c', rg, os, r1, hL, hgB⟩ := hrel.out
    by_cases hjn : j < na
    · obtain ⟨x, hx⟩ : ∃ x, a[j]? = some x := ⟨a[j]'(by have := HNA.out; omega), List.getElem?_eq_getElem _⟩
      obtain ⟨y, hy⟩ : ∃ y, b[j]? = some y := ⟨b[j]'(by have := HNB.out; omega), List.getElem?_eq_getElem _⟩
      obtain ⟨b1, off1, sx, A1, n1, c1, sx', A2, n2, c2, rfl, x1, x2, x3, x4, ex⟩ := (HA.out.later ERaw.later hL).at_ hx
      obtain ⟨b2, off2, sy, A3, n3, c3, sy', A4, n4, c4, rfl, y1, y2, y3, y4, ey⟩ := (HB.out.later ERaw.later hL).at_ hy
      have hp : ps[j]? = some (x * y) := by rw [HPS.out, List.getElem?_zipWith, hx, hy]
      have hsum : sumR (ps.take (j+1)) = sumR (ps.take j) + x * y := by
        rw [List.take_add_one, hp]; exact sumR_snoc _ _
      have HSUM := hide hsum; have HL := hide (hL.drew)
      have HXS := hide ((((RawR.sized ex).mul (RawR.sized ey)).mono (by omega : k + 1 + (m + 1) ≤ k + m + 2)))
      have EX : Hid (RawR wr.drew (.agg #[.bool sx, .slice A1 n1 c1, .bool sx', .slice A2 n2 c2]) x k) := hide (RawR.later ex (Later.refl wr).drew); have EY : Hid (RawR wr.drew (.agg #[.bool sy, .slice A3 n3 c3, .bool sy', .slice A4 n4 c4]) y m) := hide (RawR.later ey (Later.refl wr).drew)
      have RG := hide rg.drew; have OS := hide (os.later (Later.refl wr).drew); have R1' := hide r1.drew
      have HSJ := hide (HSZ.out j hj)
      have hsizes : w1.heap.size < wr.drew.heap.size := rg.lt
      have hj0 : (0 : Int) ≤ (j : Int) := by omega
      have hj1 : (j : Int) < na := by omega
      have HS : Hid (∀ w', Later wr.drew w' → w'.cell? ⟨w1.heap.size, 0, none⟩ = some (.bool s) ∧ w'.cell? ⟨w1.heap.size, 1, none⟩ = some (.slice A n c) ∧ w'.cell? ⟨w1.heap.size, 2, none⟩ = some (.bool false) ∧ w'.cell? ⟨w1.heap.size, 3, none⟩ = some (.slice A' n' c') ∧ w'.cell? ⟨b1, off1 + j * 4, none⟩ = some (.bool sx) ∧ w'.cell? ⟨b1, off1 + j * 4 + 1, none⟩ = some (.slice A1 n1 c1) ∧ w'.cell? ⟨b1, off1 + j * 4 + 2, none⟩ = some (.bool sx') ∧ w'.cell? ⟨b1, off1 + j * 4 + 3, none⟩ = some (.slice A2 n2 c2) ∧ w'.cell? ⟨b2, off2 + j * 4, none⟩ = some (.bool sy) ∧ w'.cell? ⟨b2, off2 + j * 4 + 1, none⟩ = some (.slice A3 n3 c3) ∧ w'.cell? ⟨b2, off2 + j * 4 + 2, none⟩ = some (.bool sy') ∧ w'.cell? ⟨b2, off2 + j * 4 + 3, none⟩ = some (.slice A4 n4 c4)) := hide fun w' hb => ⟨(RG.out.later hb).cell rfl, (RG.out.later hb).cell rfl, (RG.out.later hb).cell rfl, (RG.out.later hb).cell rfl,
        Later.cell hb x1, Later.cell hb x2, Later.cell hb x3, Later.cell hb x4, Later.cell hb y1, Later.cell hb y2, Later.cell hb y3, Later.cell hb y4⟩
      have hmx : Try.prog.follows .mixedOrders = true := by kernel_rfl
      clear rg os r1 hL hrel hx hy hp hsum x1 x2 x3 x4 y1 y2 y3 y4 ex ey
      go_upto_region 7 with fail
      refine wp_region_N (fun w' => w'.cell? ⟨w1.heap.size, 0, none⟩ = some (.bool s) ∧ w'.cell? ⟨w1.heap.size, 1, none⟩ = some (.slice A n c) ∧ w'.cell? ⟨w1.heap.size, 2, none⟩ = some (.bool false) ∧ w'.cell? ⟨w1.heap.size, 3, none⟩ = some (.slice A' n' c') ∧ w'.cell? ⟨b1, off1 + j * 4, none⟩ = some (.bool sx) ∧ w'.cell? ⟨b1, off1 + j * 4 + 1, none⟩ = some (.slice A1 n1 c1) ∧ w'.cell? ⟨b1, off1 + j * 4 + 2, none⟩ = some (.bool sx') ∧ w'.cell? ⟨b1, off1 + j * 4 + 3, none⟩ = some (.slice A2 n2 c2) ∧ w'.cell? ⟨b2, off2 + j * 4, none⟩ = some (.bool sy) ∧ w'.cell? ⟨b2, off2 + j * 4 + 1, none⟩ = some (.slice A3 n3 c3) ∧ w'.cell? ⟨b2, off2 + j * 4 + 2, none⟩ = some (.bool sy') ∧ w'.cell? ⟨b2, off2 + j * 4 + 3, none⟩ = some (.slice A4 n4 c4)) [11] hmx (HS.out _ (Later.refl _)) (fun hHeld => ?_)
      refine wpAnyN_take (i := 0) (oi := _) (v := ?_) rfl (by kernel_rfl) (by kernel_rfl) (by kernel_rfl) (by kernel_rfl) (fun _ _ _ h => h) (Or.inl ⟨by rfl, ?_⟩) (by assumption) ?_
      rotate_left
      · intro w hSw; (try dsimp only at hSw); go_simp
        first | done | with_reducible rfl
      try simp only [Act.put, List.setIfInBounds_toArray, List.set_cons_zero, List.set_cons_succ]
      refine wpAnyN_take (i := 1) (oi := _) (v := ?_) rfl (by kernel_rfl) (by kernel_rfl) (by kernel_rfl) (by kernel_rfl) (fun _ _ _ h => h) (Or.inl ⟨by rfl, ?_⟩) (by assumption) ?_
      rotate_left
      · intro w hSw; (try dsimp only at hSw); go_simp
        first | done | with_reducible rfl
      try simp only [Act.put, List.setIfInBounds_toArray, List.set_cons_zero, List.set_cons_succ]
      refine wpAnyN_take (i := 2) (oi := _) (v := ?_) rfl (by kernel_rfl) (by kernel_rfl) (by kernel_rfl) (by kernel_rfl) (fun _ _ _ h => h) (Or.inl ⟨by rfl, ?_⟩) (by assumption) ?_
      rotate_left
      · intro w hSw; (try dsimp only at hSw); go_simp
        first | done | with_reducible rfl
      try simp only [Act.put, List.setIfInBounds_toArray, List.set_cons_zero, List.set_cons_succ]
      refine wpAnyN_take (i := 3) (oi := _) (v := ?_) rfl (by kernel_rfl) (by kernel_rfl) (by kernel_rfl) (by kernel_rfl) (fun _ _ _ h => h) (Or.inl ⟨by rfl, ?_⟩) (by assumption) ?_
      rotate_left
      · intro w hSw; (try dsimp only at hSw); go_simp
        first | done | with_reducible rfl
      try simp only [Act.put, List.setIfInBounds_toArray, List.set_cons_zero, List.set_cons_succ]
      refine wpAnyN_take (i := 4) (oi := _) (v := ?_) rfl (by kernel_rfl) (by kernel_rfl) (by kernel_rfl) (by kernel_rfl) (fun _ _ _ h => h) (Or.inl ⟨by rfl, ?_⟩) (by assumption) ?_
      rotate_left
      · intro w hSw; (try dsimp only at hSw); go_simp
        first | done | with_reducible rfl
      try simp only [Act.put, List.setIfInBounds_toArray, List.set_cons_zero, List.set_cons_succ]
      refine wpAnyN_take (i := 5) (oi := _) (v := ?_) rfl (by kernel_rfl) (by kernel_rfl) (by kernel_rfl) (by kernel_rfl) (fun _ _ _ h => h) (Or.inl ⟨by rfl, ?_⟩) (by assumption) ?_
      rotate_left
      · intro w hSw; (try dsimp only at hSw); go_simp
        first | done | with_reducible rfl
      try simp only [Act.put, List.setIfInBounds_toArray, List.set_cons_zero, List.set_cons_succ]
      refine wpAnyN_take (i := 6) (oi := _) (v := ?_) rfl (by kernel_rfl) (by kernel_rfl) (by kernel_rfl) (by kernel_rfl) (fun _ _ _ h => h) (Or.inl ⟨by rfl, ?_⟩) (by assumption) ?_
      rotate_left
      · intro w hSw; (try dsimp only at hSw); go_simp
        first | done | with_reducible rfl
      try simp only [Act.put, List.setIfInBounds_toArray, List.set_cons_zero, List.set_cons_succ]
      refine wpAnyN_take (i := 7) (oi := _) (v := ?_) rfl (by kernel_rfl) (by kernel_rfl) (by kernel_rfl) (by kernel_rfl) (fun _ _ _ h => h) (Or.inl ⟨by rfl, ?_⟩) (by assumption) ?_
      rotate_left
      · intro w hSw; (try dsimp only at hSw); go_simp
        first | done | with_reducible rfl
      try simp only [Act.put, List.setIfInBounds_toArray, List.set_cons_zero, List.set_cons_succ]
      refine wpAnyN_take (i := 8) (oi := _) (v := ?_) rfl (by kernel_rfl) (by kernel_rfl) (by kernel_rfl) (by kernel_rfl) (fun _ _ _ h => h) (Or.inl ⟨by rfl, ?_⟩) (by assumption) ?_
      rotate_left
      · intro w hSw; (try dsimp only at hSw); go_simp
        first | done | with_reducible rfl
      try simp only [Act.put, List.setIfInBounds_toArray, List.set_cons_zero, List.set_cons_succ]
      refine wpAnyN_ready (rs := [9]) (by kernel_rfl) (by simp) ?_
      refine AllReadyN.held rfl (by rfl) (fun K hK => ?_) AllReadyN.nil
      go_simp
      (with_reducible refine (qmul_calls _ _ _ x y k m (EX.out) (EY.out) (by omega)).mono ?_)
      rintro e w8 ⟨v8, rfl, o8, b8⟩
      obtain ⟨s8, P8, q8, e8, P8', q8', e8', rfl, o8⟩ := o8.open_; have O8 := hide o8; clear o8
      refine hK.out _ _ ?_ (fun hHeld => ?_)
      · exact HS.out _ b8
      clear hK K
      try simp only [Act.put, List.setIfInBounds_toArray, List.set_cons_zero, List.set_cons_succ]
      refine wpAnyN_ready (rs := [10]) (by kernel_rfl) (by simp) ?_
      refine AllReadyN.held rfl (by rfl) (fun K hK => ?_) AllReadyN.nil
      go_simp
      (with_reducible refine (qadd_calls _ _ _ (sumR (ps.take j)) (x * y) 20000000 (k + m + 2) ((OS.out.now.raw HSJ.out).later b8) (O8.out.raw HXS.out) (by omega)).mono ?_)
      rintro e w9 ⟨v9, rfl, o9, b9⟩
      obtain ⟨s9, P9, q9, e9, P9', q9', e9', rfl, o9⟩ := o9.open_; have O9 := hide o9; clear o9
      have k9 := b8.trans b9
      have hs8 := b8.size
      obtain ⟨d1, d2, d3, d4, d5, d6, d7, d8⟩ := row_cells4 (RG.out.later k9)
      refine hK.out _ _ ?_ (fun hHeld => ?_)
      · exact HS.out _ (b8.trans b9)
      clear hK K
      try simp only [Act.put, List.setIfInBounds_toArray, List.set_cons_zero, List.set_cons_succ]
      refine wpAnyN_ready (rs := [11]) (by kernel_rfl) (by simp) ?_
      refine AllReadyN.free rfl (by rfl) (by kernel_rfl) (fun K hK => ?_) AllReadyN.nil
      go_simp
      refine hK.out _ _ ?_
      clear hK K
      try simp only [Act.put, List.setIfInBounds_toArray, List.set_cons_zero, List.set_cons_succ]
      refine wpAnyN_done (by kernel_rfl) ?_ _
      have HRG := hide (RG.out.later k9)
      have hs5 := k9.size
      have HD2 : Hid (RDotAt w w1.heap.size ps (j+1) ((((w9.setCell ⟨w1.heap.size, 0, none⟩ (.bool s9)).setCell ⟨w1.heap.size, 1, none⟩ (.slice P9 q9 e9)).setCell ⟨w1.heap.size, 2, none⟩ (.bool false)).setCell ⟨w1.heap.size, 3, none⟩ (.slice P9' q9' e9'))) := hide (by
        have oo := Only.four w1.heap.size w9 (.bool s9) (.slice P9 q9 e9) (.bool false) (.slice P9' q9' e9')
        refine ⟨_, _, _, _, _, _, _, HRG.out.four _ _ _ _, ?_, (R1'.out.later k9).only oo (by omega), (HL.out.trans k9).only oo (by omega), hgB⟩
        rw [HSUM.out]
        exact ((On.ownR O9.out).mono (fun b hb _ => ⟨by omega, by omega⟩)).only oo (by simp))
      clear d1 d2 d3 d4 d5 d6 d7 d8 hHeld
      go_wp2_with fail
      exact ⟨⟨j+1, by omega, by go_num, HD2⟩, by simp [intOf]; omega⟩

    · obtain rfl : j = na := by omega
      rw [List.take_of_length_le (by rw [HPL.out]; exact Nat.le_refl _), ← HZ.out] at os
      obtain ⟨d1, d2, d3, d4, d5, d6, d7, d8⟩ := row_cells4 rg
      obtain ⟨f1, f2, f3, f4, f5, f6, f7, f8⟩ := row_cells4 r1
      have HR := hide r1; have OS := hide os
      clear rg os r1 hrel
      go_wp2_with fail
      refine bodyPost_ret (results_rat_bool rfl rfl rfl (HR.out.four _ _ _ _)) rfl ?_
      have oo := Only.four w.heap.size wr (.bool s) (.slice A n c) (.bool false) (.slice A' n' c')
      exact ⟨_, _, rfl, ⟨OwnR.of_on (OS.out.only oo (by omega)) (fun b h => by omega), rfl⟩, hL.only oo (Nat.le_refl _)⟩

set_option maxHeartbeats 4000000 in
theorem qaddtimes_calls (w : World) (va vb vk : Value) (a b : List Rat) (q : Rat) (k m p : Nat) (ha : Rats (ERaw k) w va a) (hb : Rats (ERaw m) w vb b) (hq : RawR w vk q p) (hlen : a.length = b.length) (hl9 : a.length ≤ 1000000000) (hkm : k + m + p ≤ 50000000) :
    Calls Try.prog 18 #[va, vb, vk] w (Ret2 w fun w' v o => OwnRats w' w.heap.size v (axpyL a b q) ∧ o = .bool true) := by
  have HA := hide ha; have HB := hide hb; have HLEN := hide hlen
  obtain ⟨A0, na, ca, rfl, hna, -⟩ := ha.form
  obtain ⟨B0, nb, cb, rfl, hnb, -⟩ := hb.form
  obtain ⟨sk, A5, n5, c5, sk', A6, n6, c6, rfl⟩ := hq.open_
  have hnn : na = nb := by omega
  subst hnn
  have hna9 : na ≤ 1000000000 := by omega
  have t1 : ((na : Int) != na) = false := by simp
  have HNA := hide hna; have HNB := hide hnb; have HQ0 := hide hq
  clear ha hb hlen hna hnb hq
  go_enter Try.func18, Try.ntmps18
  go_wp2_with fail
  have hL0 : Later w (w.alloc (Obj.cells #[Value.bool sk, Value.slice A5 n5 c5, Value.bool sk', Value.slice A6 n6 c6] 27)) := (Later.refl w).alloc _
  have hrow := Row.new w 27 [.bool sk, .slice A5 n5 c5, .bool sk', .slice A6 n6 c6]
  go_loopw [8, 9] (fun out i wr => ∃ j : Nat, j ≤ na ∧ i = .int .i64 (j : Int) ∧ OutRats EOwn wr (fun b => w.heap.size + 1 ≤ b) (w.heap.size + 1) out (List.zipWith (fun x y => x + q * y) (a.take j) (b.take j)) ∧ Row wr w.heap.size 27 [.bool sk, .slice A5 n5 c5, .bool sk', .slice A6 n6 c6] ∧ Later w wr) (fun _ i _ => (na - intOf i).toNat)
  case atStart => exact ⟨0, by omega, rfl, OutRats.nil _ _ _ _, hrow, hL0⟩
  case round =>
    obtain ⟨j, hj, rfl, hout, rk, hL⟩ := hrel
    clear hrow hL0
    by_cases hjn : j < na
    · obtain ⟨x, hx⟩ : ∃ x, a[j]? = some x := ⟨a[j]'(by have := HNA.out; omega), List.getElem?_eq_getElem _⟩
      obtain ⟨y, hy⟩ : ∃ y, b[j]? = some y := ⟨b[j]'(by have := HNB.out; omega), List.getElem?_eq_getElem _⟩
      obtain ⟨b1, off1, sx, A1, n1, c1, sx', A2, n2, c2, rfl, x1, x2, x3, x4, ex⟩ := HA.out.at_ hx
      obtain ⟨b2, off2, sy, A3, n3, c3, sy', A4, n4, c4, rfl, y1, y2, y3, y4, ey⟩ := HB.out.at_ hy
      have HZ : Hid (List.zipWith (fun x y => x + q * y) (a.take (j+1)) (b.take (j+1)) = List.zipWith (fun x y => x + q * y) (a.take j) (b.take j) ++ [x + q * y]) := hide (by
        have e1 : a.take (j+1) = a.take j ++ [x] := by rw [List.take_add_one, hx]; rfl
        have e2 : b.take (j+1) = b.take j ++ [y] := by rw [List.take_add_one, hy]; rfl
        rw [e1, e2, List.zipWith_append (by rw [List.length_take, List.length_take]; have := HNA.out; have := HNB.out; omega)]; rfl)
      have hb1 : b1 < w.heap.size := World.block_lt_of_cell? w ⟨b1, off1 + j * 4, none⟩ x1
      have hb2 : b2 < w.heap.size := World.block_lt_of_cell? w ⟨b2, off2 + j * 4, none⟩ y1
      have HXS := hide (((RawR.sized HQ0.out).mul (RawR.sized ey)).mono (by omega : p + 1 + (m + 1) ≤ p + m + 2))
      have hblt := hout.lt
      have hwsz := rk.lt
      have hj0 : (0 : Int) ≤ (j : Int) := by omega
      have hj1 : (j : Int) < na := by omega
      have EX : Hid (RawR wr.drew (.agg #[.bool sx, .slice A1 n1 c1, .bool sx', .slice A2 n2 c2]) x k) := hide (RawR.later ex hL.drew); have EY : Hid (RawR wr.drew (.agg #[.bool sy, .slice A3 n3 c3, .bool sy', .slice A4 n4 c4]) y m) := hide (RawR.later ey hL.drew)
      have HQ := hide (HQ0.out.later hL.drew)
      have hS : ∀ w', wr.drew.grownBy w' u8.ownBlock → w'.cell? ⟨w.heap.size, 0, none⟩ = some (.bool sk) ∧ w'.cell? ⟨w.heap.size, 1, none⟩ = some (.slice A5 n5 c5) ∧ w'.cell? ⟨w.heap.size, 2, none⟩ = some (.bool sk') ∧ w'.cell? ⟨w.heap.size, 3, none⟩ = some (.slice A6 n6 c6) ∧ w'.cell? ⟨b1, off1 + j * 4, none⟩ = some (.bool sx) ∧ w'.cell? ⟨b1, off1 + j * 4 + 1, none⟩ = some (.slice A1 n1 c1) ∧ w'.cell? ⟨b1, off1 + j * 4 + 2, none⟩ = some (.bool sx') ∧ w'.cell? ⟨b1, off1 + j * 4 + 3, none⟩ = some (.slice A2 n2 c2) ∧ w'.cell? ⟨b2, off2 + j * 4, none⟩ = some (.bool sy) ∧ w'.cell? ⟨b2, off2 + j * 4 + 1, none⟩ = some (.slice A3 n3 c3) ∧ w'.cell? ⟨b2, off2 + j * 4 + 2, none⟩ = some (.bool sy') ∧ w'.cell? ⟨b2, off2 + j * 4 + 3, none⟩ = some (.slice A4 n4 c4) := by
        intro w' hg
        have hr : Row w' w.heap.size 27 [.bool sk, .slice A5 n5 c5, .bool sk', .slice A6 n6 c6] := rk.drew.grown hg (fun e => by have := (hblt _ e.symm).1; omega)
        have h1 : some b1 ≠ u8.ownBlock := fun e => by have := (hblt _ e.symm).1; omega
        have h2 : some b2 ≠ u8.ownBlock := fun e => by have := (hblt _ e.symm).1; omega
        exact ⟨hr.cell rfl, hr.cell rfl, hr.cell rfl, hr.cell rfl, hg.cell (Later.cell hL.drew x1) h1, hg.cell (Later.cell hL.drew x2) h1, hg.cell (Later.cell hL.drew x3) h1, hg.cell (Later.cell hL.drew x4) h1,
          hg.cell (Later.cell hL.drew y1) h2, hg.cell (Later.cell hL.drew y2) h2, hg.cell (Later.cell hL.drew y3) h2, hg.cell (Later.cell hL.drew y4) h2⟩
      have HS := hide hS
      have HOUT := hide (hout.later (Later.refl wr).drew)
      have HEL : Hid (∀ (W W' : World) (v : Value), wr.drew.heap.size ≤ W.heap.size → ∀ {o}, OwnR W' W.heap.size v (x + q * y) → On (W'.alloc o) (fun b => w.heap.size + 1 ≤ b ∧ some b ≠ u8.ownBlock) (fun W => EOwn W v (x + q * y))) := hide fun W W' v hW o ho =>
        (On.made (On.ownR ho) (by have : wr.heap.size ≤ W.heap.size := hW; omega) (fun k hk => by have := (hblt k hk).2; have : wr.heap.size ≤ W.heap.size := hW; omega)).later ((Later.refl W').alloc _)
      have HLG : Hid (∀ w', wr.drew.grownBy w' u8.ownBlock → Later w w') := hide fun w' hg => hL.drew.grown hg fun k hk => by have := (hblt k hk).1; omega
      have HRK : Hid (∀ w', wr.drew.grownBy w' u8.ownBlock → Row w' w.heap.size 27 [.bool sk, .slice A5 n5 c5, .bool sk', .slice A6 n6 c6]) := hide fun w' hg => rk.drew.grown hg (fun e => by have := (hblt _ e.symm).1; omega)
      have hmx : Try.prog.follows .mixedOrders = true := by kernel_rfl
      have hszd : wr.drew.heap.size = wr.heap.size := rfl
      clear hS hout rk hx hy x1 x2 x3 x4 y1 y2 y3 y4 ex ey
      go_upto_region 7 with fail
      refine wp_region_N (fun w' => w'.cell? ⟨w.heap.size, 0, none⟩ = some (.bool sk) ∧ w'.cell? ⟨w.heap.size, 1, none⟩ = some (.slice A5 n5 c5) ∧ w'.cell? ⟨w.heap.size, 2, none⟩ = some (.bool sk') ∧ w'.cell? ⟨w.heap.size, 3, none⟩ = some (.slice A6 n6 c6) ∧ w'.cell? ⟨b1, off1 + j * 4, none⟩ = some (.bool sx) ∧ w'.cell? ⟨b1, off1 + j * 4 + 1, none⟩ = some (.slice A1 n1 c1) ∧ w'.cell? ⟨b1, off1 + j * 4 + 2, none⟩ = some (.bool sx') ∧ w'.cell? ⟨b1, off1 + j * 4 + 3, none⟩ = some (.slice A2 n2 c2) ∧ w'.cell? ⟨b2, off2 + j * 4, none⟩ = some (.bool sy) ∧ w'.cell? ⟨b2, off2 + j * 4 + 1, none⟩ = some (.slice A3 n3 c3) ∧ w'.cell? ⟨b2, off2 + j * 4 + 2, none⟩ = some (.bool sy') ∧ w'.cell? ⟨b2, off2 + j * 4 + 3, none⟩ = some (.slice A4 n4 c4)) [] hmx (HS.out _ (World.grownBy.refl _ _)) (fun hHeld => ?_)
      refine wpAnyN_take (i := 0) (oi := _) (v := ?_) rfl (by kernel_rfl) (by kernel_rfl) (by kernel_rfl) (by kernel_rfl) (fun _ _ _ h => h) (Or.inl ⟨by rfl, ?_⟩) (by assumption) ?_
      rotate_left
      · intro w hSw; (try dsimp only at hSw); go_simp
        first | done | with_reducible rfl
      try simp only [Act.put, List.setIfInBounds_toArray, List.set_cons_zero, List.set_cons_succ]
      refine wpAnyN_take (i := 1) (oi := _) (v := ?_) rfl (by kernel_rfl) (by kernel_rfl) (by kernel_rfl) (by kernel_rfl) (fun _ _ _ h => h) (Or.inl ⟨by rfl, ?_⟩) (by assumption) ?_
      rotate_left
      · intro w hSw; (try dsimp only at hSw); go_simp
        first | done | with_reducible rfl
      try simp only [Act.put, List.setIfInBounds_toArray, List.set_cons_zero, List.set_cons_succ]
      refine wpAnyN_take (i := 2) (oi := _) (v := ?_) rfl (by kernel_rfl) (by kernel_rfl) (by kernel_rfl) (by kernel_rfl) (fun _ _ _ h => h) (Or.inl ⟨by rfl, ?_⟩) (by assumption) ?_
      rotate_left
      · intro w hSw; (try dsimp only at hSw); go_simp
        first | done | with_reducible rfl
      try simp only [Act.put, List.setIfInBounds_toArray, List.set_cons_zero, List.set_cons_succ]
      refine wpAnyN_take (i := 3) (oi := _) (v := ?_) rfl (by kernel_rfl) (by kernel_rfl) (by kernel_rfl) (by kernel_rfl) (fun _ _ _ h => h) (Or.inl ⟨by rfl, ?_⟩) (by assumption) ?_
      rotate_left
      · intro w hSw; (try dsimp only at hSw); go_simp
        first | done | with_reducible rfl
      try simp only [Act.put, List.setIfInBounds_toArray, List.set_cons_zero, List.set_cons_succ]
      refine wpAnyN_take (i := 4) (oi := _) (v := ?_) rfl (by kernel_rfl) (by kernel_rfl) (by kernel_rfl) (by kernel_rfl) (fun _ _ _ h => h) (Or.inl ⟨by rfl, ?_⟩) (by assumption) ?_
      rotate_left
      · intro w hSw; (try dsimp only at hSw); go_simp
        first | done | with_reducible rfl
      try simp only [Act.put, List.setIfInBounds_toArray, List.set_cons_zero, List.set_cons_succ]
      refine wpAnyN_take (i := 5) (oi := _) (v := ?_) rfl (by kernel_rfl) (by kernel_rfl) (by kernel_rfl) (by kernel_rfl) (fun _ _ _ h => h) (Or.inl ⟨by rfl, ?_⟩) (by assumption) ?_
      rotate_left
      · intro w hSw; (try dsimp only at hSw); go_simp
        first | done | with_reducible rfl
      try simp only [Act.put, List.setIfInBounds_toArray, List.set_cons_zero, List.set_cons_succ]
      refine wpAnyN_take (i := 6) (oi := _) (v := ?_) rfl (by kernel_rfl) (by kernel_rfl) (by kernel_rfl) (by kernel_rfl) (fun _ _ _ h => h) (Or.inl ⟨by rfl, ?_⟩) (by assumption) ?_
      rotate_left
      · intro w hSw; (try dsimp only at hSw); go_simp
        first | done | with_reducible rfl
      try simp only [Act.put, List.setIfInBounds_toArray, List.set_cons_zero, List.set_cons_succ]
      refine wpAnyN_take (i := 7) (oi := _) (v := ?_) rfl (by kernel_rfl) (by kernel_rfl) (by kernel_rfl) (by kernel_rfl) (fun _ _ _ h => h) (Or.inl ⟨by rfl, ?_⟩) (by assumption) ?_
      rotate_left
      · intro w hSw; (try dsimp only at hSw); go_simp
        first | done | with_reducible rfl
      try simp only [Act.put, List.setIfInBounds_toArray, List.set_cons_zero, List.set_cons_succ]
      refine wpAnyN_take (i := 8) (oi := _) (v := ?_) rfl (by kernel_rfl) (by kernel_rfl) (by kernel_rfl) (by kernel_rfl) (fun _ _ _ h => h) (Or.inl ⟨by rfl, ?_⟩) (by assumption) ?_
      rotate_left
      · intro w hSw; (try dsimp only at hSw); go_simp
        first | done | with_reducible rfl
      try simp only [Act.put, List.setIfInBounds_toArray, List.set_cons_zero, List.set_cons_succ]
      refine wpAnyN_take (i := 9) (oi := _) (v := ?_) rfl (by kernel_rfl) (by kernel_rfl) (by kernel_rfl) (by kernel_rfl) (fun _ _ _ h => h) (Or.inl ⟨by rfl, ?_⟩) (by assumption) ?_
      rotate_left
      · intro w hSw; (try dsimp only at hSw); go_simp
        first | done | with_reducible rfl
      try simp only [Act.put, List.setIfInBounds_toArray, List.set_cons_zero, List.set_cons_succ]
      refine wpAnyN_ready (rs := [10]) (by kernel_rfl) (by simp) ?_
      refine AllReadyN.held rfl (by rfl) (fun K hK => ?_) AllReadyN.nil
      go_simp
      (with_reducible refine (qmul_calls _ _ _ q y p m (HQ.out) (EY.out) (by omega)).mono ?_)
      rintro e w8 ⟨v8, rfl, o8, b8⟩
      obtain ⟨s8, P8, q8, e8, P8', q8', e8', rfl, o8⟩ := o8.open_; have O8 := hide o8; clear o8
      have hs8 := b8.size
      refine hK.out _ _ ?_ (fun hHeld => ?_)
      · exact HS.out _ ((World.grownBy.refl wr.drew _).trans (Later.grownBy b8 _))
      clear hK K
      try simp only [Act.put, List.setIfInBounds_toArray, List.set_cons_zero, List.set_cons_succ]
      refine wpAnyN_ready (rs := [11]) (by kernel_rfl) (by simp) ?_
      refine AllReadyN.held rfl (by rfl) (fun K hK => ?_) AllReadyN.nil
      go_simp
      (with_reducible refine (qadd_calls _ _ _ x (q * y) k (p + m + 2) (RawR.later EX.out b8) (O8.out.raw HXS.out) (by omega)).mono ?_)
      rintro e w9 ⟨v9, rfl, o9, b9⟩
      obtain ⟨s9, P9, q9, e9, P9', q9', e9', rfl, o9⟩ := o9.open_; have O9 := hide o9; clear o9
      have hs9 := b9.size
      refine hK.out _ _ ?_ (fun hHeld => ?_)
      · exact HS.out _ (((World.grownBy.refl wr.drew _).trans (Later.grownBy b8 _)).trans (Later.grownBy b9 _))
      clear hK K
      try simp only [Act.put, List.setIfInBounds_toArray, List.set_cons_zero, List.set_cons_succ]
      refine wpAnyN_ready (rs := [12]) (by kernel_rfl) (by simp) ?_
      refine AllReadyN.held rfl (by rfl) (fun K hK => ?_) AllReadyN.nil
      go_simp
      refine hK.out _ _ ?_ (fun hHeld => ?_)
      · exact HS.out _ ((((World.grownBy.refl wr.drew _).trans (Later.grownBy b8 _)).trans (Later.grownBy b9 _)).trans (World.grownBy_alloc _ _ _))
      clear hK K
      try simp only [Act.put, List.setIfInBounds_toArray, List.set_cons_zero, List.set_cons_succ]
      refine wpAnyN_ready (rs := [13]) (by kernel_rfl) (by simp) ?_
      refine AllReadyN.held rfl (by rfl) (fun K hK => ?_) AllReadyN.nil
      refine wp_append_rat _ _ rfl (by rfl) (HOUT.out.later ((b8.trans b9).alloc _)) (by rfl) (Row.new w9 27 [.bool s9, .slice P9 q9 e9, .bool false, .slice P9' q9' e9']) (HEL.out _ _ _ hs8 O9.out) (by rw [List.length_zipWith, List.length_take]; omega) (by rw [World.size_alloc]; omega) ?_
      intro v10 w10 hout10 hg10
      have HO10 := hide hout10
      have HG := hide hg10
      clear hout10
      refine hK.out _ _ ?_ (fun hHeld => ?_)
      · exact HS.out _ (((((World.grownBy.refl wr.drew _).trans (Later.grownBy b8 _)).trans (Later.grownBy b9 _)).trans (World.grownBy_alloc _ _ _)).trans HG.out)
      clear hK K
      try simp only [Act.put, List.setIfInBounds_toArray, List.set_cons_zero, List.set_cons_succ]
      refine wpAnyN_take (i := 14) (oi := _) (v := ?_) rfl (by kernel_rfl) (by kernel_rfl) (by kernel_rfl) (by kernel_rfl) (fun _ _ _ h => h) (Or.inl ⟨by rfl, ?_⟩) (by assumption) ?_
      rotate_left
      · intro w hSw; (try dsimp only at hSw); go_simp
        first | done | with_reducible rfl
      try simp only [Act.put, List.setIfInBounds_toArray, List.set_cons_zero, List.set_cons_succ]
      refine wpAnyN_done (by kernel_rfl) ?_ _
      have hwr := HLG.out _ (((Later.grownBy (b8.trans b9) _).trans (World.grownBy_alloc _ _ _)).trans HG.out)
      have hrk := HRK.out _ (((Later.grownBy (b8.trans b9) _).trans (World.grownBy_alloc _ _ _)).trans HG.out)
      have HO : OutRats EOwn w10 (fun b => w.heap.size + 1 ≤ b) (w.heap.size + 1) v10 (List.zipWith (fun x y => x + q * y) (a.take (j+1)) (b.take (j+1))) := by
        rw [HZ.out]; exact HO10.out
      have HO2 := hide HO
      have HRK2 := hide hrk
      clear HO hHeld hrk
      go_wp2_with fail
      refine ⟨⟨j+1, by omega, by go_num, HO2.out, HRK2.out, hwr⟩, by simp [intOf]; omega⟩

    · obtain rfl : j = na := by omega
      rw [List.take_of_length_le (by rw [← HNA.out]; exact Nat.le_refl _), List.take_of_length_le (by rw [← HNB.out]; exact Nat.le_refl _)] at hout
      have HO := hide hout
      clear hout rk
      go_wp2_with fail
      go_ret2
      exact ⟨_, _, rfl, ⟨(HO.out.rats).mono (fun b hb _ => by rcases hb with h | h <;> omega), rfl⟩, hL⟩
end Go.Proofs.Ytkendajmnmchoaa
