/- Plans: which books and plans are gone through. -/
import Derived.Test.YthncinngkfflgaaGreatQ22
import Derived.Test.YthncinngkfflgaaGreatQ12
set_option linter.unusedVariables false
set_option linter.unusedSimpArgs false
set_option maxRecDepth 100000
namespace Go.Proofs.YthncinngkfflgaaGreat
open Go.RowKit Go.Shelf
attribute [local go_sem ↓] Go.wp_at_zero Go.wp_at_succ

instance : Inhabited PItem := ⟨item0⟩
theorem Grid.len_ {w : World} {A : Option Addr} {n c : Nat} {t : List (List Int)} (h : Grid w (.slice A n c) t) : n = t.length := by
  obtain ⟨_, _, _, e, hn, -, -, -⟩ := h.form
  injection e with _ e _
  omega
/-- a truth, and what it tells -/
def RetP (w : World) (p : Prop) (e : Ending) (w' : World) : Prop := ∃ u, e = .returned (.bool u) ∧ Later w w' ∧ (u = true → p)
/-- an item as it may come in -/
def ItemAt (E : World → Value → Rat → Bool → Prop) (w : World) (A : Option Addr) (i : Nat) (x : PItem) : Prop :=
  ∃ b off, A = some ⟨b, off, none⟩ ∧ ∃ e1 e2 e3 : ICells, w.cell? ⟨b, off + i * 12, none⟩ = some (.bool e1.a) ∧ w.cell? ⟨b, off + i * 12 + 1, none⟩ = some (.slice e1.A e1.n e1.c) ∧ w.cell? ⟨b, off + i * 12 + 2, none⟩ = some (.bool e1.a') ∧ w.cell? ⟨b, off + i * 12 + 3, none⟩ = some (.slice e1.A' e1.n' e1.c') ∧ w.cell? ⟨b, off + i * 12 + 4, none⟩ = some (.bool e2.a) ∧ w.cell? ⟨b, off + i * 12 + 5, none⟩ = some (.slice e2.A e2.n e2.c) ∧ w.cell? ⟨b, off + i * 12 + 6, none⟩ = some (.bool e2.a') ∧ w.cell? ⟨b, off + i * 12 + 7, none⟩ = some (.slice e2.A' e2.n' e2.c') ∧ w.cell? ⟨b, off + i * 12 + 8, none⟩ = some (.bool e3.a) ∧ w.cell? ⟨b, off + i * 12 + 9, none⟩ = some (.slice e3.A e3.n e3.c) ∧ w.cell? ⟨b, off + i * 12 + 10, none⟩ = some (.bool e3.a') ∧ w.cell? ⟨b, off + i * 12 + 11, none⟩ = some (.slice e3.A' e3.n' e3.c') ∧ E w (.agg #[.bool e1.a, .slice e1.A e1.n e1.c, .bool e1.a', .slice e1.A' e1.n' e1.c']) x.s x.sf ∧ E w (.agg #[.bool e2.a, .slice e2.A e2.n e2.c, .bool e2.a', .slice e2.A' e2.n' e2.c']) x.h x.hf ∧ E w (.agg #[.bool e3.a, .slice e3.A e3.n e3.c, .bool e3.a', .slice e3.A' e3.n' e3.c']) x.b x.bf
/-- a number as it may come in: of whatever size, but for what a machine can bear -/
def EAnyF : World → Value → Rat → Bool → Prop := fun w v q _ => ∃ s A n c s' A' n' c', v = .agg #[.bool s, .slice A n c, .bool s', .slice A' n' c'] ∧ EAny w v q ∧ n ≤ 35184372088832 ∧ n' ≤ 35184372088832
theorem EAnyF.parts {w : World} {s s' : Bool} {A A' : Option Addr} {n c n' c' : Nat} {q : Rat} {f : Bool} (h : EAnyF w (.agg #[.bool s, .slice A n c, .bool s', .slice A' n' c']) q f) : EAny w (.agg #[.bool s, .slice A n c, .bool s', .slice A' n' c']) q ∧ n ≤ 35184372088832 ∧ n' ≤ 35184372088832 := by
  obtain ⟨s1, A1, n1, c1, s2, A2, n2, c2, e, h1, h2, h3⟩ := h
  injection e with e; injection e with e; injection e with e1 e; injection e with e2 e; injection e with e3 e; injection e with e4 e
  injection e2 with _ e2 _; injection e4 with _ e4 _
  exact ⟨h1, by omega, by omega⟩
def ItsAny (w : World) (A : Option Addr) (n c : Nat) : Prop := n ≤ c ∧ c ≤ maxLen ∧ ∀ i < n, ∃ x, ItemAt EAnyF w A i x
theorem enum_of {w : World} {v : Value} {q : Rat} {k : Nat} (h : RawR w v q k) (hk : k ≤ 1000) : ∃ f, ENum k w v q f := by
  obtain ⟨a, A, n, c, b, A', n', c', x, y, e, h1, h2, h3⟩ := id h
  refine ⟨decide (0 < y), h, a, A, n, c, b, A', n', c', y, e, RawI.mono h2 hk, ?_⟩
  by_cases hy : 0 < y <;> simp [hy]

set_option maxHeartbeats 8000000 in
theorem few17_calls (w : World) (A1 A2 A3 A4 : Option Addr) (n1 n2 n3 n4 c1 c2 c3 c4 : Nat) (hor now : Int) (caps : List Int) (ords : List POrd) (mks : List PMk) (hI : ItsAny w A1 n1 c1) (hC : Sq 1 iCells w (.slice A2 n2 c2) caps) (hO : Sq 4 oCells w (.slice A3 n3 c3) ords) (hM : Sq 3 mCells w (.slice A4 n4 c4) mks) (hh : IFit hor) (hn : IFit now) (fc : ∀ z ∈ caps, IFit z) (fo : ∀ o ∈ ords, o.fit) (fm : ∀ x ∈ mks, x.fit) :
    Calls Tryz.prog 22 #[.agg #[.slice A1 n1 c1, .int .i64 hor, .int .i64 now, .slice A2 n2 c2, .slice A3 n3 c3, .slice A4 n4 c4]] w (RetP w (∃ D : PBook, D.hor = hor ∧ D.now = now ∧ D.caps = caps ∧ D.ords = ords ∧ D.mks = mks ∧ BookIn w (.slice A1 n1 c1) (.slice A2 n2 c2) (.slice A3 n3 c3) (.slice A4 n4 c4) D)) := by
  have HI := hide hI; have HC := hide hC; have HO := hide hO; have HM := hide hM
  have HFIT := hide (show IFit hor ∧ IFit now ∧ (∀ z ∈ caps, IFit z) ∧ (∀ o ∈ ords, o.fit) ∧ (∀ x ∈ mks, x.fit) from ⟨hh, hn, fc, fo, fm⟩)
  have L2 : Hid (n2 = caps.length) := hide hC.len_
  have L3 : Hid (n3 = ords.length) := hide hO.len_
  have L4 : Hid (n4 = mks.length) := hide hM.len_
  clear hI hC hO hM hh hn fc fo fm
  obtain ⟨W0, hW0⟩ : ∃ W0, W0 = (w.alloc (Obj.cells #[Value.slice A1 n1 c1, Value.int .i64 hor, Value.int .i64 now, Value.slice A2 n2 c2, Value.slice A3 n3 c3, Value.slice A4 n4 c4] 47)) := ⟨_, rfl⟩
  obtain ⟨hb0, r0, hsz0⟩ := boxes1 w [.slice A1 n1 c1, .int .i64 hor, .int .i64 now, .slice A2 n2 c2, .slice A3 n3 c3, .slice A4 n4 c4] 47 hW0
  have B0 := hide hb0; have HW0 := hide hW0
  have R0 := hide r0
  clear hb0 hW0 hsz0 r0
  go_enter Tryz.func22, Tryz.ntmps22
  go_upto_region 1 with fail
  rw [← HW0.out]
  have r_d := R0.out.later (Later.refl W0)
  have d0 := r_d.cell (i := 0) rfl; have d1 := r_d.cell (i := 1) rfl; have d2 := r_d.cell (i := 2) rfl; have d3 := r_d.cell (i := 3) rfl; have d4 := r_d.cell (i := 4) rfl; have d5 := r_d.cell (i := 5) rfl
  clear r_d
  go_wp2_with fail
  clear d0 d1 d2 d3 d4 d5
  go_loopw [3] (fun iv wr => ∃ j : Nat, j ≤ n1 ∧ j ≤ 10 ∧ iv = .int .i64 (j : Int) ∧ Hid (∀ i < j, ∃ x, ItemAt (ENum 12) w A1 i x) ∧ Later W0 wr) (fun iv _ => (10 - intOf iv).toNat)
  case atStart => exact ⟨0, by omega, by omega, rfl, hide fun i hi => by omega, Later.refl _⟩
  case round =>
    obtain ⟨j, hj, hj10, rfl, hpre, hL⟩ := hrel
    have HL := hide hL
    clear hL
    have r_d := R0.out.later HL.out
    have d0 := r_d.cell (i := 0) rfl; have d1 := r_d.cell (i := 1) rfl; have d2 := r_d.cell (i := 2) rfl; have d3 := r_d.cell (i := 3) rfl; have d4 := r_d.cell (i := 4) rfl; have d5 := r_d.cell (i := 5) rfl
    clear r_d
    by_cases hjn : j < n1 ∧ j < 10
    · obtain ⟨hj1', hj2'⟩ := hjn
      obtain ⟨x, b1, off1, rfl, e1, e2, e3, x0, x1, x2, x3, x4, x5, x6, x7, x8, x9, x10, x11, m1, m2, m3⟩ := HI.out.2.2 j hj1'
      obtain ⟨m1, l1⟩ := m1.parts
      obtain ⟨m2, l2⟩ := m2.parts
      obtain ⟨m3, l3⟩ := m3.parts
      have HXS := hide (show w.cell? ⟨b1, off1 + j * 12, none⟩ = some (.bool e1.a) ∧ w.cell? ⟨b1, off1 + j * 12 + 1, none⟩ = some (.slice e1.A e1.n e1.c) ∧ w.cell? ⟨b1, off1 + j * 12 + 2, none⟩ = some (.bool e1.a') ∧ w.cell? ⟨b1, off1 + j * 12 + 3, none⟩ = some (.slice e1.A' e1.n' e1.c') ∧ w.cell? ⟨b1, off1 + j * 12 + 4, none⟩ = some (.bool e2.a) ∧ w.cell? ⟨b1, off1 + j * 12 + 5, none⟩ = some (.slice e2.A e2.n e2.c) ∧ w.cell? ⟨b1, off1 + j * 12 + 6, none⟩ = some (.bool e2.a') ∧ w.cell? ⟨b1, off1 + j * 12 + 7, none⟩ = some (.slice e2.A' e2.n' e2.c') ∧ w.cell? ⟨b1, off1 + j * 12 + 8, none⟩ = some (.bool e3.a) ∧ w.cell? ⟨b1, off1 + j * 12 + 9, none⟩ = some (.slice e3.A e3.n e3.c) ∧ w.cell? ⟨b1, off1 + j * 12 + 10, none⟩ = some (.bool e3.a') ∧ w.cell? ⟨b1, off1 + j * 12 + 11, none⟩ = some (.slice e3.A' e3.n' e3.c') from ⟨x0, x1, x2, x3, x4, x5, x6, x7, x8, x9, x10, x11⟩)
      have M1 := hide m1; have M2 := hide m2; have M3 := hide m3
      have HLW := hide (B0.out.trans HL.out)
      have x0 := Later.cell HLW.out x0; have x1 := Later.cell HLW.out x1; have x2 := Later.cell HLW.out x2; have x3 := Later.cell HLW.out x3; have x4 := Later.cell HLW.out x4; have x5 := Later.cell HLW.out x5; have x6 := Later.cell HLW.out x6; have x7 := Later.cell HLW.out x7; have x8 := Later.cell HLW.out x8; have x9 := Later.cell HLW.out x9; have x10 := Later.cell HLW.out x10; have x11 := Later.cell HLW.out x11
      have hj0 : (0 : Int) ≤ (j : Int) := by omega
      have hj1 : (j : Int) < n1 := by omega
      have hj2 : (j : Int) < 10 := by omega
      have hw0 : IntKind.i64.wrap ((e1.n : Int) + (e1.n' : Int)) = (e1.n : Int) + (e1.n' : Int) := IntWalk.i64_in _ (by omega)
      have hw1 : IntKind.i64.wrap ((e1.n : Int) + (e1.n' : Int) + (e2.n : Int)) = (e1.n : Int) + (e1.n' : Int) + (e2.n : Int) := IntWalk.i64_in _ (by omega)
      have hw2 : IntKind.i64.wrap ((e1.n : Int) + (e1.n' : Int) + (e2.n : Int) + (e2.n' : Int)) = (e1.n : Int) + (e1.n' : Int) + (e2.n : Int) + (e2.n' : Int) := IntWalk.i64_in _ (by omega)
      have hw3 : IntKind.i64.wrap ((e1.n : Int) + (e1.n' : Int) + (e2.n : Int) + (e2.n' : Int) + (e3.n : Int)) = (e1.n : Int) + (e1.n' : Int) + (e2.n : Int) + (e2.n' : Int) + (e3.n : Int) := IntWalk.i64_in _ (by omega)
      have hw4 : IntKind.i64.wrap ((e1.n : Int) + (e1.n' : Int) + (e2.n : Int) + (e2.n' : Int) + (e3.n : Int) + (e3.n' : Int)) = (e1.n : Int) + (e1.n' : Int) + (e2.n : Int) + (e2.n' : Int) + (e3.n : Int) + (e3.n' : Int) := IntWalk.i64_in _ (by omega)
      clear m1 m2 m3
      by_cases g : (12 : Int) < (e1.n : Int) + (e1.n' : Int) + (e2.n : Int) + (e2.n' : Int) + (e3.n : Int) + (e3.n' : Int)
      · have t1 : decide ((12 : Int) < (e1.n : Int) + (e1.n' : Int) + (e2.n : Int) + (e2.n' : Int) + (e3.n : Int) + (e3.n' : Int)) = true := by simpa using g
        clear hpre
        go_wp2_with fail
        go_ret
        exact ⟨false, rfl, (B0.out.trans (HL.out.alloc _)), fun h => by cases h⟩
      · have t1 : decide ((12 : Int) < (e1.n : Int) + (e1.n' : Int) + (e2.n : Int) + (e2.n' : Int) + (e3.n : Int) + (e3.n' : Int)) = false := by simpa using g
        have HN : Hid (∀ i < j + 1, ∃ x, ItemAt (ENum 12) w (some ⟨b1, off1, none⟩) i x) := hide (fun i hi => by
          by_cases hij : i < j
          · exact hpre.out i hij
          · obtain rfl : i = j := by omega
            have g' : e1.n + e1.n' + e2.n + e2.n' + e3.n + e3.n' ≤ 12 := by omega
            obtain ⟨f1, k1⟩ := enum_of (rawR_small (m := 12) M1.out (by omega) (by omega)) (by omega)
            obtain ⟨f2, k2⟩ := enum_of (rawR_small (m := 12) M2.out (by omega) (by omega)) (by omega)
            obtain ⟨f3, k3⟩ := enum_of (rawR_small (m := 12) M3.out (by omega) (by omega)) (by omega)
            obtain ⟨x0, x1, x2, x3, x4, x5, x6, x7, x8, x9, x10, x11⟩ := HXS.out
            exact ⟨⟨x.s, x.h, x.b, f1, f2, f3⟩, b1, off1, rfl, e1, e2, e3, x0, x1, x2, x3, x4, x5, x6, x7, x8, x9, x10, x11, k1, k2, k3⟩)
        clear g
        go_wp2_with fail
        exact ⟨⟨j+1, by omega, by omega, by go_num, HN, HL.out.alloc _⟩, by simp [intOf]; omega⟩
    · have HEND : Hid (n1 < 10 → ∀ i < n1, ∃ x, ItemAt (ENum 12) w A1 i x) := hide (fun h i hi => hpre.out i (by omega))
      clear hpre
      have HFIN : Hid (n1 < 10 → n2 < 100 → n3 < 100 → n4 < 200 → ∃ D : PBook, D.hor = hor ∧ D.now = now ∧ D.caps = caps ∧ D.ords = ords ∧ D.mks = mks ∧ BookIn w (.slice A1 n1 c1) (.slice A2 n2 c2) (.slice A3 n3 c3) (.slice A4 n4 c4) D) := hide (fun h1 h2 h3 h4 => by
        obtain ⟨Q, hQ⟩ := Go.Deep.choose_lt (α := PItem) (HEND.out h1)
        refine ⟨⟨(List.range n1).map Q, hor, now, caps, ords, mks⟩, rfl, rfl, rfl, rfl, rfl, ⟨?_, HC.out, HO.out, HM.out, by simp; omega, by show caps.length ≤ 1000; have := L2.out; omega, by show ords.length ≤ 1000; have := L3.out; omega, by show mks.length ≤ 1000; have := L4.out; omega, HFIT.out.1, HFIT.out.2.1, HFIT.out.2.2.1, HFIT.out.2.2.2.1, HFIT.out.2.2.2.2⟩⟩
        refine ⟨A1, c1, by simp, by simpa using HI.out.1, HI.out.2.1, fun i x hi => ?_⟩
        have hin : i < n1 := by
          have := (List.getElem?_eq_some_iff.1 hi).1
          simpa using this
        obtain ⟨b, off, ha, e1, e2, e3, x0, x1, x2, x3, x4, x5, x6, x7, x8, x9, x10, x11, k1, k2, k3⟩ := hQ i hin
        simp [hin] at hi
        subst hi
        refine ⟨b, off, ha, e1, e2, e3, fun j u hj => ?_, k1, k2, k3⟩
        match j, hj with
        | 0, hj => simp [ICells.cells] at hj; subst hj; exact x0
        | 1, hj => simp [ICells.cells] at hj; subst hj; exact x1
        | 2, hj => simp [ICells.cells] at hj; subst hj; exact x2
        | 3, hj => simp [ICells.cells] at hj; subst hj; exact x3
        | 4, hj => simp [ICells.cells] at hj; subst hj; exact x4
        | 5, hj => simp [ICells.cells] at hj; subst hj; exact x5
        | 6, hj => simp [ICells.cells] at hj; subst hj; exact x6
        | 7, hj => simp [ICells.cells] at hj; subst hj; exact x7
        | 8, hj => simp [ICells.cells] at hj; subst hj; exact x8
        | 9, hj => simp [ICells.cells] at hj; subst hj; exact x9
        | 10, hj => simp [ICells.cells] at hj; subst hj; exact x10
        | 11, hj => simp [ICells.cells] at hj; subst hj; exact x11
        | k + 12, hj => simp [ICells.cells] at hj)
      have hb1 : decide ((j : Int) < n1 ∧ (j : Int) < 10) = false := by rw [decide_eq_false_iff_not]; omega
      by_cases g0 : (j : Int) < n1
      · have g5 : ¬ (j : Int) < 10 := by omega
        have g1 : ¬ (n1 : Int) < 10 := by omega
        go_wp2_with fail
        go_ret
        exact ⟨false, rfl, B0.out.trans HL.out, fun h => by cases h⟩
      ·
        by_cases g1 : (n1 : Int) < 10
        · by_cases g2 : (n2 : Int) < 100
          · by_cases g3 : (n3 : Int) < 100
            · by_cases g4 : (n4 : Int) < 200
              · have HOK := hide (HFIN.out (by omega) (by omega) (by omega) (by omega))
                go_wp2_with fail
                go_ret
                exact ⟨true, rfl, B0.out.trans HL.out, fun _ => HOK.out⟩
              · go_wp2_with fail
                go_ret
                exact ⟨false, rfl, B0.out.trans HL.out, fun h => by cases h⟩
            · go_wp2_with fail
              go_ret
              exact ⟨false, rfl, B0.out.trans HL.out, fun h => by cases h⟩
          · go_wp2_with fail
            go_ret
            exact ⟨false, rfl, B0.out.trans HL.out, fun h => by cases h⟩
        · go_wp2_with fail
          go_ret
          exact ⟨false, rfl, B0.out.trans HL.out, fun h => by cases h⟩

def sumLen : List (List Int) → Nat
  | [] => 0
  | r :: t => r.length + sumLen t
theorem sumLen_append (a b : List (List Int)) : sumLen (a ++ b) = sumLen a + sumLen b := by
  induction a with
  | nil => simp [sumLen]
  | cons x a ih => simp [sumLen, ih]; omega
theorem sumLen_le {t : List (List Int)} : ∀ r ∈ t, r.length ≤ sumLen t := by
  induction t with
  | nil => intro r hr; cases hr
  | cons a t ih =>
    intro r hr
    rcases List.mem_cons.1 hr with rfl | hr
    · simp [sumLen]
    · have := ih r hr; simp [sumLen]; omega
theorem sumLen_bound {t : List (List Int)} {m : Nat} (h : ∀ r ∈ t, r.length ≤ m) : sumLen t ≤ t.length * m := by
  induction t with
  | nil => simp [sumLen]
  | cons a t ih =>
    have h1 := h a (List.mem_cons_self ..)
    have h2 := ih fun r hr => h r (List.mem_cons_of_mem _ hr)
    simp only [sumLen, List.length_cons, Nat.succ_mul]; omega

set_option maxHeartbeats 4000000 in
theorem fewplan_calls (w : World) (Aq : Option Addr) (nq cq : Nat) (t : List (List Int)) (hq : Grid w (.slice Aq nq cq) t) (hf : ∀ r ∈ t, ∀ z ∈ r, -9223372036854775808 ≤ z ∧ z < 9223372036854775808) (hl : ∀ r ∈ t, r.length ≤ 35184372088832) :
    Calls Tryz.prog 33 #[.slice Aq nq cq] w (RetP w (GridIn w (.slice Aq nq cq) t)) := by
  have HQ := hide hq; have HF := hide hf
  have LQ : Hid (nq = t.length) := hide hq.len_
  have HLL := hide hl
  clear hq hf hl
  go_enter Tryz.func33, Tryz.ntmps33
  go_wp2_with fail
  go_loopw [3, 4] (fun s iv wr => ∃ j : Nat, j ≤ nq ∧ j ≤ 20 ∧ s = .int .i64 (sumLen (t.take j) : Int) ∧ iv = .int .i64 (j : Int) ∧ Hid (∀ r ∈ t.take j, r.length ≤ 35184372088832) ∧ w = wr) (fun _ iv _ => (20 - intOf iv).toNat)
  case atStart => exact ⟨0, by omega, by omega, rfl, rfl, hide (by simp), rfl⟩
  case round =>
    obtain ⟨j, hj, hj20, rfl, rfl, hpre, rfl⟩ := hrel
    by_cases hjn : j < nq ∧ j < 20
    · obtain ⟨h1, h2⟩ := hjn
      obtain ⟨r, hr⟩ : ∃ r, t[j]? = some r := ⟨t[j]'(by have := LQ.out; omega), List.getElem?_eq_getElem _⟩
      obtain ⟨b1, off1, Ar, nr, cr, rfl, x1, hrow⟩ := HQ.out.at_ hr
      have hnr : nr = r.length := hrow.len_
      have hnr2 : nr ≤ 35184372088832 := by rw [hnr]; exact HLL.out r (List.mem_of_getElem? hr)
      have htk : t.take (j+1) = t.take j ++ [r] := by rw [List.take_add_one, hr]; rfl
      have hsl : sumLen (t.take (j+1)) = sumLen (t.take j) + nr := by rw [htk, sumLen_append, hnr]; simp [sumLen]
      have hN : ∀ r ∈ t.take (j+1), r.length ≤ 35184372088832 := fun y hy => by
        rw [htk] at hy
        rcases List.mem_append.1 hy with hy | hy
        · exact hpre.out y hy
        · simp at hy; rw [hy, ← hnr]; exact hnr2
      have hsb := sumLen_bound hpre.out
      rw [List.length_take] at hsb
      have hsb2 : sumLen (t.take j) ≤ 20 * 35184372088832 := Nat.le_trans hsb (Nat.mul_le_mul_right _ (by omega))
      obtain ⟨s, hs⟩ : ∃ s, sumLen (t.take j) = s := ⟨_, rfl⟩
      rw [hs] at hsl hsb2 ⊢
      have HSL := hide hsl; have HN := hide hN
      have hj0 : (0 : Int) ≤ (j : Int) := by omega
      have hj1 : (j : Int) < nq := by omega
      have hj2 : (j : Int) < 20 := by omega
      have hw : IntKind.i64.wrap ((s : Int) + (nr : Int)) = (s : Int) + nr := IntWalk.i64_in _ (by omega)
      clear hr hrow hnr htk hsl hN hsb hs
      go_wp2_with fail
      exact ⟨⟨j+1, by omega, by omega, by rw [HSL.out]; push_cast; rfl, by go_num, HN, by first | rfl | trivial⟩, by simp [intOf]; omega⟩
    · obtain ⟨s, hs⟩ : ∃ s, sumLen (t.take j) = s := ⟨_, rfl⟩
      rw [hs]
      have HOK : Hid (nq < 20 → s < 200 → GridIn w (.slice Aq nq cq) t) := hide (fun h1 h2 => by
        have : t.take j = t := List.take_of_length_le (by have := LQ.out; omega)
        rw [this] at hs
        exact ⟨HQ.out, by have := LQ.out; omega, fun r hr => by have := sumLen_le r hr; omega, HF.out⟩)
      clear hs hpre
      by_cases g0 : (j : Int) < nq
      · have g5 : ¬ (j : Int) < 20 := by omega
        have g1 : ¬ (nq : Int) < 20 := by omega
        go_wp2_with fail
        go_ret
        exact ⟨false, rfl, Later.refl w, fun h => by cases h⟩
      ·
        by_cases g1 : (nq : Int) < 20
        · by_cases g2 : (s : Int) < 200
          · have HOK2 := hide (HOK.out (by omega) (by omega))
            go_wp2_with fail
            go_ret
            exact ⟨true, rfl, Later.refl w, fun _ => HOK2.out⟩
          · go_wp2_with fail
            go_ret
            exact ⟨false, rfl, Later.refl w, fun h => by cases h⟩
        · go_wp2_with fail
          go_ret
          exact ⟨false, rfl, Later.refl w, fun h => by cases h⟩
end Go.Proofs.YthncinngkfflgaaGreat

/- Plans: awake. -/
set_option linter.unusedVariables false
set_option linter.unusedSimpArgs false
set_option maxRecDepth 100000
namespace Go.Proofs.YthncinngkfflgaaGreat
open Go.RowKit Go.Shelf
attribute [local go_sem ↓] Go.wp_at_zero Go.wp_at_succ

set_option maxHeartbeats 1000000 in
theorem of17_calls (w : World) (n : Int) (h1 : -9223372036854775808 ≤ n) (h2 : n < 9223372036854775808) (q : Rat) (hq : Rat.divInt n 1 = q) :
    Calls Tryz.prog 61 #[.int .i64 n] w (Ret w fun w' v => OwnR w' w.heap.size v q) := by
  obtain ⟨W0, hW0⟩ : ∃ W0, W0 = w.alloc (Obj.cells #[Value.bool false, Value.slice none 0 0, Value.bool false, Value.slice none 0 0] 37) := ⟨_, rfl⟩
  obtain ⟨hb0, r1, hsz0⟩ := boxes1 w [.bool false, .slice none 0 0, .bool false, .slice none 0 0] 37 hW0
  have R1 := hide r1; have B0' := hide hb0; have HW0 := hide hW0
  clear r1 hb0 hW0
  go_enter Tryz.func61, Tryz.ntmps61
  go_wp2_with fail
  rw [← HW0.out]
  refine (lawof_calls _ n h1 h2 q hq).mono ?_
  rintro e w1 ⟨v1, rfl, o1, b1⟩
  obtain ⟨s1, P1, q1, e1, P1', q1', e1', rfl, o1⟩ := o1.open_; have O1 := hide o1; clear o1
  have HR := hide (R1.out.later b1)
  have hL := hide (B0'.out.trans b1)
  have hs1 := b1.size
  have hs : w.heap.size < W0.heap.size := R1.out.lt
  obtain ⟨d1, d2, d3, d4, d5, d6, d7, d8⟩ := row_cells4 HR.out
  go_wp2_with fail
  refine bodyPost_ret (results_rat rfl rfl (HR.out.four _ _ _ _)) rfl ?_
  have oo := Only.four w.heap.size w1 (.bool s1) (.slice P1 q1 e1) (.bool false) (.slice P1' q1' e1')
  exact ⟨_, rfl, (O1.out.only oo (by omega)).weaken (by omega), hL.out.only oo (Nat.le_refl _)⟩


/-! ### the book that is looked at first -/
def D0 : PBook := ⟨[⟨5, 1, 2, true, true, true⟩], 2, 0, [4, 4], [⟨1, 0, 1, 3⟩], []⟩
def De : PBook := ⟨[], 0, 0, [], [], []⟩
theorem may0P : MayP D0 := by
  refine ⟨⟨?_, ?_, by decide, by decide, by decide, by decide, by decide, by decide, by decide⟩, by decide, by decide, ?_, ?_, ?_, ?_⟩
  · intro x hx; simp [D0] at hx; subst hx; unfold PItem.okB costB; decide +kernel
  · intro x hx; simp [D0] at hx; subst hx; decide
  · intro x hx; simp [D0] at hx; subst hx; unfold POrd.okP; decide
  · intro x hx; simp [D0] at hx
  · intro i a b ha hb; simp [D0] at hb
  · intro i a b ha hb; simp [D0] at hb
theorem may0 : mayB D0 = true := mayB_iff.2 may0P
theorem mayE : mayB De = false := mayB_not.2 (fun h => by have := h.head.n1; simp [De] at this)
theorem cap0 : capV D0 1 = 4 := by unfold capV; rw [if_pos ⟨may0, by decide, by decide⟩]; rfl
theorem due0 (p : Int) : dueV D0 0 p = if p = 1 then 3 else 0 := by
  unfold dueV; rw [if_pos may0]
  show (if (0 : Int) = 0 ∧ (1 : Int) = p then 3 else 0) + 0 = _
  by_cases h : p = 1
  · subst h; rfl
  · rw [if_neg (by omega), if_neg h]; rfl
theorem there0 : thereV D0 0 = 0 := by unfold thereV; rw [if_pos may0]; rfl
theorem fixed0 (p : Int) : fixedV D0 0 p = none := by unfold fixedV; rw [if_pos may0]; rfl
theorem lev0_1 (a b : Int) : lev D0 [a, b] 0 1 = a := by
  show thereV D0 0 + (a - dueV D0 0 (0 + (0 : Nat))) = a
  rw [there0, due0]; simp
theorem lev0_2 (a b : Int) : lev D0 [a, b] 0 2 = a + b - 3 := by
  show lev D0 [a, b] 0 1 + (b - dueV D0 0 (0 + (1 : Nat))) = _
  rw [lev0_1, due0]; simp; omega
theorem shape0P (a b : Int) (ha : 0 ≤ a ∧ a ≤ 1000000) (hb : 0 ≤ b ∧ b ≤ 1000000) : ShapeP D0 [[a, b]] := ⟨may0P, rfl, fun r hr => by
  simp at hr; subst hr
  exact ⟨rfl, fun z hz => by simp at hz; rcases hz with rfl | rfl <;> assumption⟩⟩
theorem cost0 : costV D0 [[3, 0]] = 8 := by
  unfold costV; rw [if_pos (shapeB_iff.2 (shape0P 3 0 (by decide) (by decide)))]
  show (0 : Rat) + ((0 + termC ⟨5, 1, 2, true, true, true⟩ 3 (lev D0 [3, 0] 0 1)) + termC ⟨5, 1, 2, true, true, true⟩ 0 (lev D0 [3, 0] 0 2)) = 8
  rw [lev0_1, lev0_2]
  unfold termC
  decide +kernel
theorem allowed0 : allowedB D0 [[3, 0]] = true := allowedB_iff.2 ⟨shape0P 3 0 (by decide) (by decide), fun k hk => by
    have hk2 : (k : Int) < 2 := hk
    refine ⟨fun i hi n hn => ?_, fun _ => ?_⟩
    · have : i = 0 := by simpa using hi
      subst this
      rw [show ((0 : Nat) : Int) = 0 from rfl, fixed0] at hn; cases hn
    · have hc : capV D0 (D0.now + k) = 4 := by
        have : k = 0 ∨ k = 1 := by omega
        rcases this with rfl | rfl
        · unfold capV; rw [if_pos ⟨may0, by decide, by decide⟩]; rfl
        · unfold capV; rw [if_pos ⟨may0, by decide, by decide⟩]; rfl
      rw [hc]
      have : k = 0 ∨ k = 1 := by omega
      rcases this with rfl | rfl <;> decide, fun i r hi => by
    have hi0 : i = 0 := by
      have := (List.getElem?_eq_some_iff.1 hi).1; simpa using this
    subst hi0
    simp at hi; subst hi
    show 0 ≤ lev D0 [3, 0] 0 2
    rw [lev0_2]; decide⟩
theorem allowed1 : allowedB D0 [[2, 0]] = false := Bool.eq_false_iff.2 (fun h => by
  have h1 := (allowedB_iff.1 h).levels 0 [2, 0] rfl
  have h2 : lev D0 [2, 0] ((0 : Nat) : Int) D0.hor.toNat = lev D0 [2, 0] 0 2 := rfl
  rw [h2, lev0_2] at h1; omega)
theorem allowed2 : allowedB D0 [[5, 0]] = false := Bool.eq_false_iff.2 (fun h => by
  have h1 := ((allowedB_iff.1 h).periods 0 (by decide)).2 (by
    show (false || (fixedV D0 ((0 : Nat) : Int) (D0.now + (0 : Nat))).isNone) = true
    rw [show ((0 : Nat) : Int) = 0 from rfl, fixed0]; rfl)
  have hc : capV D0 (D0.now + (0 : Nat)) = 4 := by unfold capV; rw [if_pos ⟨may0, by decide, by decide⟩]; rfl
  rw [hc] at h1
  revert h1; decide)
theorem grid_one {w : World} {g g2 : Nat} {a b : Int} {T T2 : TypeId} (h1 : Row w g T [.int .i64 a, .int .i64 b]) (h2 : Row w g2 T2 [.slice (some ⟨g, 0, none⟩) 2 2]) (ha : 0 ≤ a ∧ a ≤ 1000000) (hb : 0 ≤ b ∧ b ≤ 1000000) : GridIn w (.slice (some ⟨g2, 0, none⟩) 1 1) [[a, b]] := by
  refine ⟨⟨_, 1, rfl, Nat.le_refl _, by decide, fun i row hi => ?_⟩, by simp, fun r hr => by simp at hr; subst hr; simp, fun r hr z hz => ?_⟩
  · match i, hi with
    | 0, hi => simp at hi; subst hi; exact ⟨g2, 0, _, _, _, rfl, h2.cell rfl, sq_two h1⟩
    | i + 1, hi => simp at hi
  · simp at hr; subst hr; simp at hz; rcases hz with rfl | rfl <;> omega
theorem enum_own {w : World} {v : Value} {q : Rat} {B : Nat} (h : OwnR w B v q) (hs : Sized q 1) : ENum 12 w v q true :=
  ⟨RawR.mono (OwnR.raw h hs) (by omega), by simpa using EFlag.of_own h (hs.mono (by omega))⟩
theorem bookE (w : World) : BookIn w (.slice none 0 0) (.slice none 0 0) (.slice none 0 0) (.slice none 0 0) De :=
  ⟨⟨none, 0, rfl, by simp [De], by decide, fun i x hi => by simp [De] at hi⟩, Sq.nil _ _ _, Sq.nil _ _ _, Sq.nil _ _ _, by simp [De], by simp [De], by simp [De], by simp [De], by unfold IFit; decide, by unfold IFit; decide, by simp [De], by simp [De], by simp [De]⟩

theorem book0 {w : World} {g1 g2 g3 : Nat} {s5 s1 s2 : Bool} {P5 P5' P1 P1' P2 P2' : Option Addr} {q5 e5 q5' e5' q1 e1 q1' e1' q2 e2 q2' e2' : Nat} {B5 B1 B2 : Nat}
    (h1 : Row w g1 62 [.bool s5, .slice P5 q5 e5, .bool false, .slice P5' q5' e5', .bool s1, .slice P1 q1 e1, .bool false, .slice P1' q1' e1', .bool s2, .slice P2 q2 e2, .bool false, .slice P2' q2' e2']) (h2 : Row w g2 3 [.int .i64 4, .int .i64 4]) (h3 : Row w g3 65 [.int .i64 1, .int .i64 0, .int .i64 1, .int .i64 3])
    (o5 : OwnR w B5 (.agg #[.bool s5, .slice P5 q5 e5, .bool false, .slice P5' q5' e5']) 5) (o1 : OwnR w B1 (.agg #[.bool s1, .slice P1 q1 e1, .bool false, .slice P1' q1' e1']) 1) (o2 : OwnR w B2 (.agg #[.bool s2, .slice P2 q2 e2, .bool false, .slice P2' q2' e2']) 2) :
    BookIn w (.slice (some ⟨g1, 0, none⟩) 1 1) (.slice (some ⟨g2, 0, none⟩) 2 2) (.slice (some ⟨g3, 0, none⟩) 1 1) (.slice none 0 0) D0 := by
  refine ⟨⟨_, 1, rfl, Nat.le_refl _, by decide, fun i x hi => ?_⟩, sq_two h2, ⟨_, 1, rfl, Nat.le_refl _, by decide, fun i x hi => ?_⟩, Sq.nil _ _ _, by simp [D0], by simp [D0], by simp [D0], by simp [D0], by unfold IFit; decide, by unfold IFit; decide, fun z hz => ?_, fun z hz => ?_, fun z hz => by simp [D0] at hz⟩
  · match i, hi with
    | 0, hi =>
      simp [D0] at hi; subst hi
      refine ⟨g1, 0, rfl, ⟨s5, P5, q5, e5, false, P5', q5', e5'⟩, ⟨s1, P1, q1, e1, false, P1', q1', e1'⟩, ⟨s2, P2, q2, e2, false, P2', q2', e2'⟩, fun j u hj => ?_, enum_own o5 (sized_small (by decide) (by decide)), enum_own o1 sized_1, enum_own o2 sized_2⟩
      refine h1.cell ?_
      rw [show 0 + 0 * 12 + j = j by omega]
      exact hj
    | i + 1, hi => simp [D0] at hi
  · match i, hi with
    | 0, hi =>
      simp [D0] at hi; subst hi
      exact ⟨g3, 0, rfl, fun j u hj => h3.cell (by rw [show 0 + 0 * 4 + j = j by omega]; exact hj)⟩
    | i + 1, hi => simp [D0] at hi
  · simp [D0] at hz; subst hz; unfold IFit; decide
  · simp [D0] at hz; subst hz; unfold POrd.fit IFit; decide

set_option maxHeartbeats 16000000 in
theorem awake17_calls (w : World)  :
    Calls Tryz.prog 21 #[] w (RetV w (.bool true)) := by
  go_enter Tryz.func21, Tryz.ntmps21
  go_wp2_with fail
  ((with_reducible refine (of17_calls w 5 (by omega) (by omega) 5 (by decide +kernel)).mono ?_); rintro e w1 ⟨v5, rfl, o5, b1⟩)
  obtain ⟨s5, P5, q5, e5, P5', q5', e5', rfl, o5⟩ := o5.open_; have O5 := hide o5; clear o5
  have HL1 := hide b1
  clear b1
  go_wp2_with fail
  ((with_reducible refine (of17_calls w1 1 (by omega) (by omega) 1 (by decide +kernel)).mono ?_); rintro e w2 ⟨v1, rfl, o1, b2⟩)
  obtain ⟨s1, P1, q1, e1, P1', q1', e1', rfl, o1⟩ := o1.open_; have O1 := hide o1; clear o1
  have HL2 := hide (HL1.out.trans b2)
  have O52 := hide (OwnR.later O5.out b2)
  clear b2
  go_wp2_with fail
  ((with_reducible refine (of17_calls w2 2 (by omega) (by omega) 2 (by decide +kernel)).mono ?_); rintro e w3 ⟨v2, rfl, o2, b3⟩)
  obtain ⟨s2, P2, q2, e2, P2', q2', e2', rfl, o2⟩ := o2.open_; have O2 := hide o2; clear o2
  have HL3 := hide (HL2.out.trans b3)
  have O53 := hide (OwnR.later O52.out b3)
  have O13 := hide (OwnR.later O1.out b3)
  clear b3
  go_upto_region 2 with fail
  obtain ⟨gg, hgg⟩ : ∃ gg, gg = w3.heap.size := ⟨_, rfl⟩
  rw [← hgg]
  obtain ⟨W7, hW7⟩ : ∃ W7, W7 = ((((w3.alloc (Obj.cells #[Value.bool s5, Value.slice P5 q5 e5, Value.bool false, Value.slice P5' q5' e5', Value.bool s1, Value.slice P1 q1 e1, Value.bool false, Value.slice P1' q1' e1', Value.bool s2, Value.slice P2 q2 e2, Value.bool false, Value.slice P2' q2' e2'] 62)).alloc (Obj.cells #[Value.int .i64 4, Value.int .i64 4] 3)).alloc (Obj.cells #[Value.int .i64 1, Value.int .i64 0, Value.int .i64 1, Value.int .i64 3] 65)).alloc (Obj.cells #[Value.slice (some ⟨gg, 0, none⟩) 1 1, Value.int .i64 2, Value.int .i64 0, Value.slice (some ⟨gg + 1, 0, none⟩) 2 2, Value.slice (some ⟨gg + 1 + 1, 0, none⟩) 1 1, Value.slice none 0 0] 47)) := ⟨_, rfl⟩
  rw [← hW7]
  obtain ⟨b7, rg1, rg2, rg3, rgb, hsz7⟩ := boxes4 w3 [.bool s5, .slice P5 q5 e5, .bool false, .slice P5' q5' e5', .bool s1, .slice P1 q1 e1, .bool false, .slice P1' q1' e1', .bool s2, .slice P2 q2 e2, .bool false, .slice P2' q2' e2'] [.int .i64 4, .int .i64 4] [.int .i64 1, .int .i64 0, .int .i64 1, .int .i64 3] [.slice (some ⟨gg, 0, none⟩) 1 1, .int .i64 2, .int .i64 0, .slice (some ⟨gg + 1, 0, none⟩) 2 2, .slice (some ⟨gg + 1 + 1, 0, none⟩) 1 1, .slice none 0 0] 62 3 65 47 hW7
  rw [← hgg] at rg1 rg2 rg3 rgb
  have rg3 : Row W7 (gg + 1 + 1) 65 [.int .i64 1, .int .i64 0, .int .i64 1, .int .i64 3] := rg3
  have HL7 := hide (HL3.out.trans b7)
  have hbk := book0 rg1 rg2 rg3 (OwnR.later O53.out b7) (OwnR.later O13.out b7) (OwnR.later O2.out b7)
  obtain ⟨gb, hgb⟩ : ∃ gb, gb = gg + 3 := ⟨_, rfl⟩
  rw [← hgb] at rgb
  have HB7 := hide hbk; have RB := hide rgb
  clear hbk rg1 rg2 rg3 b7 hW7 hgg rgb hsz7 O5 O52 O53 O1 O13 O2
  try rw [show gg + 1 + 1 + 1 = gb from hgb.symm]
  try rw [show gg + 3 = gb from hgb.symm]
  clear hgb
  have r_d := RB.out
  have d0 := r_d.cell (i := 0) rfl; have d1 := r_d.cell (i := 1) rfl; have d2 := r_d.cell (i := 2) rfl; have d3 := r_d.cell (i := 3) rfl; have d4 := r_d.cell (i := 4) rfl; have d5 := r_d.cell (i := 5) rfl
  clear r_d
  go_wp2_with fail
  ((refine (plcost_calls _ _ _ _ _ _ _ _ _ _ _ _ _ D0 (HB7.out.later (((Later.refl W7).alloc _).alloc _)) _ _ _ [[3, 0]] (grid_one ((Row.new W7 3 [.int .i64 3, .int .i64 0]).alloc _) (by have hn := Row.new (W7.alloc (Obj.cells #[Value.int .i64 3, Value.int .i64 0] 3)) 43 [.slice (some ⟨W7.heap.size, 0, none⟩) 2 2]; rw [World.size_alloc] at hn; exact hn) (by omega) (by omega))).mono ?_); rintro e w8 ⟨v8, rfl, o8, hs8, b8⟩)
  rw [cost0] at o8 hs8
  rw [shapeB_iff.2 (shape0P 3 0 (by decide) (by decide))]
  obtain ⟨s8, P8, q8, e8, P8', q8', e8', rfl, o8⟩ := o8.open_; have O8 := hide o8; clear o8
  have HS8 := hide hs8
  have HL8 : Hid (Later W7 w8) := hide ((((Later.refl W7).alloc _).alloc _).trans b8)
  clear b8 hs8 d0 d1 d2 d3 d4 d5
  go_upto_region 3 with fail
  obtain ⟨w9, hw9⟩ : ∃ w9, w9 = w8.alloc (Obj.cells #[Value.bool s8, Value.slice P8 q8 e8, Value.bool false, Value.slice P8' q8' e8'] 37) := ⟨_, rfl⟩
  obtain ⟨gc, hgc⟩ : ∃ gc, gc = w8.heap.size := ⟨_, rfl⟩
  have bw9 : Later w8 w9 := by rw [hw9]; exact (Later.refl _).alloc _
  have rgc : Row w9 gc 37 [.bool s8, .slice P8 q8 e8, .bool false, .slice P8' q8' e8'] := by rw [hw9, hgc]; exact Row.new _ _ _
  rw [← hw9, ← hgc]
  have HL98 : Hid (Later W7 w9) := hide (HL8.out.trans bw9)
  have HL9 := hide (HL7.out.trans HL98.out)
  have HBK : Hid (BookIn w9.drew _ _ _ _ D0) := hide (HB7.out.later (HL98.out.trans (Later.refl w9).drew))
  have HC : Hid (OwnR w9.drew 0 (.agg #[.bool s8, .slice P8 q8 e8, .bool false, .slice P8' q8' e8']) 8) := hide (OwnR.later O8.out (bw9.trans (Later.refl w9).drew))
  have HCS := HS8
  have hrb := RB.out.later (HL98.out.trans (Later.refl w9).drew)
  have hrc := rgc.later (Later.refl w9).drew
  have HT1 : Hid (∀ w', Later w9.drew w' → w'.cell? ⟨gb, 0, none⟩ = some (.slice (some ⟨gg, 0, none⟩) 1 1) ∧ w'.cell? ⟨gb, 1, none⟩ = some (.int .i64 2) ∧ w'.cell? ⟨gb, 2, none⟩ = some (.int .i64 0) ∧ w'.cell? ⟨gb, 3, none⟩ = some (.slice (some ⟨gg + 1, 0, none⟩) 2 2) ∧ w'.cell? ⟨gb, 4, none⟩ = some (.slice (some ⟨gg + 1 + 1, 0, none⟩) 1 1) ∧ w'.cell? ⟨gb, 5, none⟩ = some (.slice none 0 0) ∧ w'.cell? ⟨gc, 0, none⟩ = some (.bool s8) ∧ w'.cell? ⟨gc, 1, none⟩ = some (.slice P8 q8 e8) ∧ w'.cell? ⟨gc, 2, none⟩ = some (.bool false) ∧ w'.cell? ⟨gc, 3, none⟩ = some (.slice P8' q8' e8')) := hide fun w' hb => ⟨(hrb.later hb).cell rfl, (hrb.later hb).cell rfl, (hrb.later hb).cell rfl, (hrb.later hb).cell rfl, (hrb.later hb).cell rfl, (hrb.later hb).cell rfl, (hrc.later hb).cell rfl, (hrc.later hb).cell rfl, (hrc.later hb).cell rfl, (hrc.later hb).cell rfl⟩
  clear hrb hrc rgc bw9 hw9 hgc HL8 O8
  have hmx : Tryz.prog.follows .mixedOrders = true := by kernel_rfl
  refine wp_region_N (fun w' => w'.cell? ⟨gb, 0, none⟩ = some (.slice (some ⟨gg, 0, none⟩) 1 1) ∧ w'.cell? ⟨gb, 1, none⟩ = some (.int .i64 2) ∧ w'.cell? ⟨gb, 2, none⟩ = some (.int .i64 0) ∧ w'.cell? ⟨gb, 3, none⟩ = some (.slice (some ⟨gg + 1, 0, none⟩) 2 2) ∧ w'.cell? ⟨gb, 4, none⟩ = some (.slice (some ⟨gg + 1 + 1, 0, none⟩) 1 1) ∧ w'.cell? ⟨gb, 5, none⟩ = some (.slice none 0 0) ∧ w'.cell? ⟨gc, 0, none⟩ = some (.bool s8) ∧ w'.cell? ⟨gc, 1, none⟩ = some (.slice P8 q8 e8) ∧ w'.cell? ⟨gc, 2, none⟩ = some (.bool false) ∧ w'.cell? ⟨gc, 3, none⟩ = some (.slice P8' q8' e8')) [] hmx (HT1.out _ (Later.refl _)) (fun hHeld => ?_)
  refine wpAnyN_takeD (some 20) (by rfl) (i := 0) (oi := _) (v := ?_) rfl (by kernel_rfl) (by kernel_rfl) (by kernel_rfl) (by kernel_rfl) (fun _ _ _ h => h) (Or.inl ⟨by rfl, ?_⟩) (by assumption) ?_
  rotate_left
  · intro w hSw; (try dsimp only at hSw); go_simp
    first | done | with_reducible rfl
  try simp only [Act.put, List.setIfInBounds_toArray, List.set_cons_zero, List.set_cons_succ]
  refine wpAnyN_ready (rs := [1]) (by kernel_rfl) (by simp) ?_
  refine AllReadyN.held rfl (by rfl) (fun K hK => ?_) AllReadyN.nil
  go_simp
  refine (plmay_calls _ _ _ _ _ _ _ _ _ _ _ _ _ D0 (HBK.out.later (Later.refl w9.drew)) _ may0).mono ?_
  rintro e w101 ⟨rfl, b1⟩
  have l1 : Later w9.drew w101 := (Later.refl w9.drew).trans b1
  refine hK.out _ _ ?_ (fun hHeld => ?_)
  · exact HT1.out _ l1
  clear hK K
  try simp only [Act.put, List.setIfInBounds_toArray, List.set_cons_zero, List.set_cons_succ]
  refine wpAnyN_takeD (some 22) (by rfl) (i := 2) (oi := _) (v := ?_) rfl (by kernel_rfl) (by kernel_rfl) (by kernel_rfl) (by kernel_rfl) (fun _ _ _ h => h) (Or.inl ⟨by rfl, ?_⟩) (by assumption) ?_
  rotate_left
  · intro w hSw; (try dsimp only at hSw); go_simp
    first | done | with_reducible rfl
  try simp only [Act.put, List.setIfInBounds_toArray, List.set_cons_zero, List.set_cons_succ]
  refine wpAnyN_takeD (some 23) (by rfl) (i := 3) (oi := _) (v := ?_) rfl (by kernel_rfl) (by kernel_rfl) (by kernel_rfl) (by kernel_rfl) (fun _ _ _ h => h) (Or.inl ⟨by rfl, ?_⟩) (by assumption) ?_
  rotate_left
  · intro w hSw; (try dsimp only at hSw); go_simp
    first | done | with_reducible rfl
  try simp only [Act.put, List.setIfInBounds_toArray, List.set_cons_zero, List.set_cons_succ]
  refine wpAnyN_takeD (some 24) (by rfl) (i := 4) (oi := _) (v := ?_) rfl (by kernel_rfl) (by kernel_rfl) (by kernel_rfl) (by kernel_rfl) (fun _ _ _ h => h) (Or.inl ⟨by rfl, ?_⟩) (by assumption) ?_
  rotate_left
  · intro w hSw; (try dsimp only at hSw); go_simp
    first | done | with_reducible rfl
  try simp only [Act.put, List.setIfInBounds_toArray, List.set_cons_zero, List.set_cons_succ]
  refine wpAnyN_takeD (some 25) (by rfl) (i := 5) (oi := _) (v := ?_) rfl (by kernel_rfl) (by kernel_rfl) (by kernel_rfl) (by kernel_rfl) (fun _ _ _ h => h) (Or.inl ⟨by rfl, ?_⟩) (by assumption) ?_
  rotate_left
  · intro w hSw; (try dsimp only at hSw); go_simp
    first | done | with_reducible rfl
  try simp only [Act.put, List.setIfInBounds_toArray, List.set_cons_zero, List.set_cons_succ]
  refine wpAnyN_takeD (some 26) (by rfl) (i := 6) (oi := _) (v := ?_) rfl (by kernel_rfl) (by kernel_rfl) (by kernel_rfl) (by kernel_rfl) (fun _ _ _ h => h) (Or.inl ⟨by rfl, ?_⟩) (by assumption) ?_
  rotate_left
  · intro w hSw; (try dsimp only at hSw); go_simp
    first | done | with_reducible rfl
  try simp only [Act.put, List.setIfInBounds_toArray, List.set_cons_zero, List.set_cons_succ]
  refine wpAnyN_ready (rs := [7]) (by kernel_rfl) (by simp) ?_
  refine AllReadyN.held rfl (by rfl) (fun K hK => ?_) AllReadyN.nil
  go_simp
  refine (of17_calls _ 8 (by omega) (by omega) 8 (by decide +kernel)).mono ?_
  rintro e w107 ⟨v7, rfl, o7, b7⟩
  obtain ⟨s7, P7, q7, e7, P7', q7', e7', rfl, o7⟩ := o7.open_; have O7 := hide o7; clear o7
  have l7 : Later w9.drew w107 := l1.trans b7
  refine hK.out _ _ ?_ (fun hHeld => ?_)
  · exact HT1.out _ l7
  clear hK K
  try simp only [Act.put, List.setIfInBounds_toArray, List.set_cons_zero, List.set_cons_succ]
  refine wpAnyN_ready (rs := [8]) (by kernel_rfl) (by simp) ?_
  refine AllReadyN.held rfl (by rfl) (fun K hK => ?_) AllReadyN.nil
  go_simp
  refine (qsame_calls _ _ _ 8 8 _ _ 1000 1 (OwnR.later HC.out l7) O7.out HCS.out (sized_small (by decide) (by decide)) (by omega) (by omega) true (by decide +kernel)).mono ?_
  rintro e w108 ⟨rfl, b8⟩
  have l8 : Later w9.drew w108 := l7.trans b8
  refine hK.out _ _ ?_ (fun hHeld => ?_)
  · exact HT1.out _ l8
  clear hK K
  try simp only [Act.put, List.setIfInBounds_toArray, List.set_cons_zero, List.set_cons_succ]
  refine wpAnyN_takeD (some 29) (by rfl) (i := 9) (oi := _) (v := ?_) rfl (by kernel_rfl) (by kernel_rfl) (by kernel_rfl) (by kernel_rfl) (fun _ _ _ h => h) (Or.inl ⟨by rfl, ?_⟩) (by assumption) ?_
  rotate_left
  · intro w hSw; (try dsimp only at hSw); go_simp
    first | done | with_reducible rfl
  try simp only [Act.put, List.setIfInBounds_toArray, List.set_cons_zero, List.set_cons_succ]
  refine wpAnyN_takeD (some 30) (by rfl) (i := 10) (oi := _) (v := ?_) rfl (by kernel_rfl) (by kernel_rfl) (by kernel_rfl) (by kernel_rfl) (fun _ _ _ h => h) (Or.inl ⟨by rfl, ?_⟩) (by assumption) ?_
  rotate_left
  · intro w hSw; (try dsimp only at hSw); go_simp
    first | done | with_reducible rfl
  try simp only [Act.put, List.setIfInBounds_toArray, List.set_cons_zero, List.set_cons_succ]
  refine wpAnyN_takeD (some 31) (by rfl) (i := 11) (oi := _) (v := ?_) rfl (by kernel_rfl) (by kernel_rfl) (by kernel_rfl) (by kernel_rfl) (fun _ _ _ h => h) (Or.inl ⟨by rfl, ?_⟩) (by assumption) ?_
  rotate_left
  · intro w hSw; (try dsimp only at hSw); go_simp
    first | done | with_reducible rfl
  try simp only [Act.put, List.setIfInBounds_toArray, List.set_cons_zero, List.set_cons_succ]
  refine wpAnyN_ready (rs := [12]) (by kernel_rfl) (by simp) ?_
  refine AllReadyN.held rfl (by rfl) (fun K hK => ?_) AllReadyN.nil
  go_simp
  refine hK.out _ _ ?_ (fun hHeld => ?_)
  · exact HT1.out _ (l8.alloc _)
  clear hK K
  try simp only [Act.put, List.setIfInBounds_toArray, List.set_cons_zero, List.set_cons_succ]
  refine wpAnyN_ready (rs := [13]) (by kernel_rfl) (by simp) ?_
  refine AllReadyN.held rfl (by rfl) (fun K hK => ?_) AllReadyN.nil
  go_simp
  refine hK.out _ _ ?_ (fun hHeld => ?_)
  · exact HT1.out _ ((l8.alloc _).alloc _)
  clear hK K
  try simp only [Act.put, List.setIfInBounds_toArray, List.set_cons_zero, List.set_cons_succ]
  refine wpAnyN_ready (rs := [14]) (by kernel_rfl) (by simp) ?_
  refine AllReadyN.held rfl (by rfl) (fun K hK => ?_) AllReadyN.nil
  go_simp
  refine (plallowed_calls _ _ _ _ _ _ _ _ _ _ _ _ _ D0 (HBK.out.later ((l8.alloc _).alloc _)) _ _ _ [[3, 0]] (grid_one ((Row.new w108 3 [.int .i64 3, .int .i64 0]).alloc _) (by have hn := Row.new (w108.alloc (Obj.cells #[Value.int .i64 3, Value.int .i64 0] 3)) 43 [.slice (some ⟨w108.heap.size, 0, none⟩) 2 2]; rw [World.size_alloc] at hn; exact hn) (by omega) (by omega)) _ allowed0).mono ?_
  rintro e w114 ⟨rfl, b14⟩
  have l14 : Later w9.drew w114 := ((l8.alloc _).alloc _).trans b14
  refine hK.out _ _ ?_ (fun hHeld => ?_)
  · exact HT1.out _ l14
  clear hK K
  try simp only [Act.put, List.setIfInBounds_toArray, List.set_cons_zero, List.set_cons_succ]
  refine wpAnyN_takeD (some 35) (by rfl) (i := 15) (oi := _) (v := ?_) rfl (by kernel_rfl) (by kernel_rfl) (by kernel_rfl) (by kernel_rfl) (fun _ _ _ h => h) (Or.inl ⟨by rfl, ?_⟩) (by assumption) ?_
  rotate_left
  · intro w hSw; (try dsimp only at hSw); go_simp
    first | done | with_reducible rfl
  try simp only [Act.put, List.setIfInBounds_toArray, List.set_cons_zero, List.set_cons_succ]
  refine wpAnyN_takeD (some 36) (by rfl) (i := 16) (oi := _) (v := ?_) rfl (by kernel_rfl) (by kernel_rfl) (by kernel_rfl) (by kernel_rfl) (fun _ _ _ h => h) (Or.inl ⟨by rfl, ?_⟩) (by assumption) ?_
  rotate_left
  · intro w hSw; (try dsimp only at hSw); go_simp
    first | done | with_reducible rfl
  try simp only [Act.put, List.setIfInBounds_toArray, List.set_cons_zero, List.set_cons_succ]
  refine wpAnyN_takeD (some 37) (by rfl) (i := 17) (oi := _) (v := ?_) rfl (by kernel_rfl) (by kernel_rfl) (by kernel_rfl) (by kernel_rfl) (fun _ _ _ h => h) (Or.inl ⟨by rfl, ?_⟩) (by assumption) ?_
  rotate_left
  · intro w hSw; (try dsimp only at hSw); go_simp
    first | done | with_reducible rfl
  try simp only [Act.put, List.setIfInBounds_toArray, List.set_cons_zero, List.set_cons_succ]
  refine wpAnyN_ready (rs := [18]) (by kernel_rfl) (by simp) ?_
  refine AllReadyN.held rfl (by rfl) (fun K hK => ?_) AllReadyN.nil
  go_simp
  refine hK.out _ _ ?_ (fun hHeld => ?_)
  · exact HT1.out _ (l14.alloc _)
  clear hK K
  try simp only [Act.put, List.setIfInBounds_toArray, List.set_cons_zero, List.set_cons_succ]
  refine wpAnyN_ready (rs := [19]) (by kernel_rfl) (by simp) ?_
  refine AllReadyN.held rfl (by rfl) (fun K hK => ?_) AllReadyN.nil
  go_simp
  refine hK.out _ _ ?_ (fun hHeld => ?_)
  · exact HT1.out _ ((l14.alloc _).alloc _)
  clear hK K
  try simp only [Act.put, List.setIfInBounds_toArray, List.set_cons_zero, List.set_cons_succ]
  refine wpAnyN_ready (rs := [20]) (by kernel_rfl) (by simp) ?_
  refine AllReadyN.held rfl (by rfl) (fun K hK => ?_) AllReadyN.nil
  go_simp
  refine (plallowed_calls _ _ _ _ _ _ _ _ _ _ _ _ _ D0 (HBK.out.later ((l14.alloc _).alloc _)) _ _ _ [[2, 0]] (grid_one ((Row.new w114 3 [.int .i64 2, .int .i64 0]).alloc _) (by have hn := Row.new (w114.alloc (Obj.cells #[Value.int .i64 2, Value.int .i64 0] 3)) 43 [.slice (some ⟨w114.heap.size, 0, none⟩) 2 2]; rw [World.size_alloc] at hn; exact hn) (by omega) (by omega)) _ allowed1).mono ?_
  rintro e w120 ⟨rfl, b20⟩
  have l20 : Later w9.drew w120 := ((l14.alloc _).alloc _).trans b20
  refine hK.out _ _ ?_ (fun hHeld => ?_)
  · exact HT1.out _ l20
  clear hK K
  try simp only [Act.put, List.setIfInBounds_toArray, List.set_cons_zero, List.set_cons_succ]
  refine wpAnyN_takeD (some 41) (by rfl) (i := 21) (oi := _) (v := ?_) rfl (by kernel_rfl) (by kernel_rfl) (by kernel_rfl) (by kernel_rfl) (fun _ _ _ h => h) (Or.inl ⟨by rfl, ?_⟩) (by assumption) ?_
  rotate_left
  · intro w hSw; (try dsimp only at hSw); go_simp
    first | done | with_reducible rfl
  try simp only [Act.put, List.setIfInBounds_toArray, List.set_cons_zero, List.set_cons_succ]
  refine wpAnyN_takeD (some 42) (by rfl) (i := 22) (oi := _) (v := ?_) rfl (by kernel_rfl) (by kernel_rfl) (by kernel_rfl) (by kernel_rfl) (fun _ _ _ h => h) (Or.inl ⟨by rfl, ?_⟩) (by assumption) ?_
  rotate_left
  · intro w hSw; (try dsimp only at hSw); go_simp
    first | done | with_reducible rfl
  try simp only [Act.put, List.setIfInBounds_toArray, List.set_cons_zero, List.set_cons_succ]
  refine wpAnyN_takeD (some 43) (by rfl) (i := 23) (oi := _) (v := ?_) rfl (by kernel_rfl) (by kernel_rfl) (by kernel_rfl) (by kernel_rfl) (fun _ _ _ h => h) (Or.inl ⟨by rfl, ?_⟩) (by assumption) ?_
  rotate_left
  · intro w hSw; (try dsimp only at hSw); go_simp
    first | done | with_reducible rfl
  try simp only [Act.put, List.setIfInBounds_toArray, List.set_cons_zero, List.set_cons_succ]
  refine wpAnyN_takeD (some 44) (by rfl) (i := 24) (oi := _) (v := ?_) rfl (by kernel_rfl) (by kernel_rfl) (by kernel_rfl) (by kernel_rfl) (fun _ _ _ h => h) (Or.inl ⟨by rfl, ?_⟩) (by assumption) ?_
  rotate_left
  · intro w hSw; (try dsimp only at hSw); go_simp
    first | done | with_reducible rfl
  try simp only [Act.put, List.setIfInBounds_toArray, List.set_cons_zero, List.set_cons_succ]
  refine wpAnyN_ready (rs := [25]) (by kernel_rfl) (by simp) ?_
  refine AllReadyN.held rfl (by rfl) (fun K hK => ?_) AllReadyN.nil
  go_simp
  refine hK.out _ _ ?_ (fun hHeld => ?_)
  · exact HT1.out _ (l20.alloc _)
  clear hK K
  try simp only [Act.put, List.setIfInBounds_toArray, List.set_cons_zero, List.set_cons_succ]
  refine wpAnyN_ready (rs := [26]) (by kernel_rfl) (by simp) ?_
  refine AllReadyN.held rfl (by rfl) (fun K hK => ?_) AllReadyN.nil
  go_simp
  refine hK.out _ _ ?_ (fun hHeld => ?_)
  · exact HT1.out _ ((l20.alloc _).alloc _)
  clear hK K
  try simp only [Act.put, List.setIfInBounds_toArray, List.set_cons_zero, List.set_cons_succ]
  refine wpAnyN_ready (rs := [27]) (by kernel_rfl) (by simp) ?_
  refine AllReadyN.held rfl (by rfl) (fun K hK => ?_) AllReadyN.nil
  go_simp
  refine (plallowed_calls _ _ _ _ _ _ _ _ _ _ _ _ _ D0 (HBK.out.later ((l20.alloc _).alloc _)) _ _ _ [[5, 0]] (grid_one ((Row.new w120 3 [.int .i64 5, .int .i64 0]).alloc _) (by have hn := Row.new (w120.alloc (Obj.cells #[Value.int .i64 5, Value.int .i64 0] 3)) 43 [.slice (some ⟨w120.heap.size, 0, none⟩) 2 2]; rw [World.size_alloc] at hn; exact hn) (by omega) (by omega)) _ allowed2).mono ?_
  rintro e w127 ⟨rfl, b27⟩
  have l27 : Later w9.drew w127 := ((l20.alloc _).alloc _).trans b27
  refine hK.out _ _ ?_ (fun hHeld => ?_)
  · exact HT1.out _ l27
  clear hK K
  try simp only [Act.put, List.setIfInBounds_toArray, List.set_cons_zero, List.set_cons_succ]
  refine wpAnyN_takeD (some 48) (by rfl) (i := 28) (oi := _) (v := ?_) rfl (by kernel_rfl) (by kernel_rfl) (by kernel_rfl) (by kernel_rfl) (fun _ _ _ h => h) (Or.inl ⟨by rfl, ?_⟩) (by assumption) ?_
  rotate_left
  · intro w hSw; (try dsimp only at hSw); go_simp
    first | done | with_reducible rfl
  try simp only [Act.put, List.setIfInBounds_toArray, List.set_cons_zero, List.set_cons_succ]
  refine wpAnyN_takeD (some 49) (by rfl) (i := 29) (oi := _) (v := ?_) rfl (by kernel_rfl) (by kernel_rfl) (by kernel_rfl) (by kernel_rfl) (fun _ _ _ h => h) (Or.inl ⟨by rfl, ?_⟩) (by assumption) ?_
  rotate_left
  · intro w hSw; (try dsimp only at hSw); go_simp
    first | done | with_reducible rfl
  try simp only [Act.put, List.setIfInBounds_toArray, List.set_cons_zero, List.set_cons_succ]
  refine wpAnyN_takeD (some 50) (by rfl) (i := 30) (oi := _) (v := ?_) rfl (by kernel_rfl) (by kernel_rfl) (by kernel_rfl) (by kernel_rfl) (fun _ _ _ h => h) (Or.inl ⟨by rfl, ?_⟩) (by assumption) ?_
  rotate_left
  · intro w hSw; (try dsimp only at hSw); go_simp
    first | done | with_reducible rfl
  try simp only [Act.put, List.setIfInBounds_toArray, List.set_cons_zero, List.set_cons_succ]
  refine wpAnyN_takeD (some 51) (by rfl) (i := 31) (oi := _) (v := ?_) rfl (by kernel_rfl) (by kernel_rfl) (by kernel_rfl) (by kernel_rfl) (fun _ _ _ h => h) (Or.inl ⟨by rfl, ?_⟩) (by assumption) ?_
  rotate_left
  · intro w hSw; (try dsimp only at hSw); go_simp
    first | done | with_reducible rfl
  try simp only [Act.put, List.setIfInBounds_toArray, List.set_cons_zero, List.set_cons_succ]
  refine wpAnyN_ready (rs := [32]) (by kernel_rfl) (by simp) ?_
  refine AllReadyN.held rfl (by rfl) (fun K hK => ?_) AllReadyN.nil
  go_simp
  refine (plcap_calls _ _ _ _ _ _ _ _ _ _ _ _ _ D0 (HBK.out.later l27) 1).mono ?_
  rintro e w132 ⟨rfl, b32⟩
  rw [cap0]
  have l32 : Later w9.drew w132 := l27.trans b32
  refine hK.out _ _ ?_ (fun hHeld => ?_)
  · exact HT1.out _ l32
  clear hK K
  try simp only [Act.put, List.setIfInBounds_toArray, List.set_cons_zero, List.set_cons_succ]
  refine wpAnyN_takeD (some 53) (by rfl) (i := 33) (oi := _) (v := ?_) rfl (by kernel_rfl) (by kernel_rfl) (by kernel_rfl) (by kernel_rfl) (fun _ _ _ h => h) (Or.inl ⟨by rfl, ?_⟩) (by assumption) ?_
  rotate_left
  · intro w hSw; (try dsimp only at hSw); go_simp
    first | done | with_reducible rfl
  try simp only [Act.put, List.setIfInBounds_toArray, List.set_cons_zero, List.set_cons_succ]
  refine wpAnyN_takeD (some 54) (by rfl) (i := 34) (oi := _) (v := ?_) rfl (by kernel_rfl) (by kernel_rfl) (by kernel_rfl) (by kernel_rfl) (fun _ _ _ h => h) (Or.inl ⟨by rfl, ?_⟩) (by assumption) ?_
  rotate_left
  · intro w hSw; (try dsimp only at hSw); go_simp
    first | done | with_reducible rfl
  try simp only [Act.put, List.setIfInBounds_toArray, List.set_cons_zero, List.set_cons_succ]
  refine wpAnyN_takeD (some 55) (by rfl) (i := 35) (oi := _) (v := ?_) rfl (by kernel_rfl) (by kernel_rfl) (by kernel_rfl) (by kernel_rfl) (fun _ _ _ h => h) (Or.inl ⟨by rfl, ?_⟩) (by assumption) ?_
  rotate_left
  · intro w hSw; (try dsimp only at hSw); go_simp
    first | done | with_reducible rfl
  try simp only [Act.put, List.setIfInBounds_toArray, List.set_cons_zero, List.set_cons_succ]
  refine wpAnyN_takeD (some 56) (by rfl) (i := 36) (oi := _) (v := ?_) rfl (by kernel_rfl) (by kernel_rfl) (by kernel_rfl) (by kernel_rfl) (fun _ _ _ h => h) (Or.inl ⟨by rfl, ?_⟩) (by assumption) ?_
  rotate_left
  · intro w hSw; (try dsimp only at hSw); go_simp
    first | done | with_reducible rfl
  try simp only [Act.put, List.setIfInBounds_toArray, List.set_cons_zero, List.set_cons_succ]
  refine wpAnyN_ready (rs := [37]) (by kernel_rfl) (by simp) ?_
  refine AllReadyN.held rfl (by rfl) (fun K hK => ?_) AllReadyN.nil
  go_simp
  refine (pldue_calls _ _ _ _ _ _ _ _ _ _ _ _ _ D0 (HBK.out.later l32) 0 1).mono ?_
  rintro e w137 ⟨rfl, b37⟩
  rw [due0 1, if_pos rfl]
  have l37 : Later w9.drew w137 := l32.trans b37
  refine hK.out _ _ ?_ (fun hHeld => ?_)
  · exact HT1.out _ l37
  clear hK K
  try simp only [Act.put, List.setIfInBounds_toArray, List.set_cons_zero, List.set_cons_succ]
  refine wpAnyN_takeD (some 58) (by rfl) (i := 38) (oi := _) (v := ?_) rfl (by kernel_rfl) (by kernel_rfl) (by kernel_rfl) (by kernel_rfl) (fun _ _ _ h => h) (Or.inl ⟨by rfl, ?_⟩) (by assumption) ?_
  rotate_left
  · intro w hSw; (try dsimp only at hSw); go_simp
    first | done | with_reducible rfl
  try simp only [Act.put, List.setIfInBounds_toArray, List.set_cons_zero, List.set_cons_succ]
  refine wpAnyN_takeD (some 59) (by rfl) (i := 39) (oi := _) (v := ?_) rfl (by kernel_rfl) (by kernel_rfl) (by kernel_rfl) (by kernel_rfl) (fun _ _ _ h => h) (Or.inl ⟨by rfl, ?_⟩) (by assumption) ?_
  rotate_left
  · intro w hSw; (try dsimp only at hSw); go_simp
    first | done | with_reducible rfl
  try simp only [Act.put, List.setIfInBounds_toArray, List.set_cons_zero, List.set_cons_succ]
  refine wpAnyN_takeD (some 60) (by rfl) (i := 40) (oi := _) (v := ?_) rfl (by kernel_rfl) (by kernel_rfl) (by kernel_rfl) (by kernel_rfl) (fun _ _ _ h => h) (Or.inl ⟨by rfl, ?_⟩) (by assumption) ?_
  rotate_left
  · intro w hSw; (try dsimp only at hSw); go_simp
    first | done | with_reducible rfl
  try simp only [Act.put, List.setIfInBounds_toArray, List.set_cons_zero, List.set_cons_succ]
  refine wpAnyN_takeD (some 61) (by rfl) (i := 41) (oi := _) (v := ?_) rfl (by kernel_rfl) (by kernel_rfl) (by kernel_rfl) (by kernel_rfl) (fun _ _ _ h => h) (Or.inl ⟨by rfl, ?_⟩) (by assumption) ?_
  rotate_left
  · intro w hSw; (try dsimp only at hSw); go_simp
    first | done | with_reducible rfl
  try simp only [Act.put, List.setIfInBounds_toArray, List.set_cons_zero, List.set_cons_succ]
  refine wpAnyN_ready (rs := [42]) (by kernel_rfl) (by simp) ?_
  refine AllReadyN.held rfl (by rfl) (fun K hK => ?_) AllReadyN.nil
  go_simp
  refine (plthere2_calls _ _ _ _ _ _ _ _ _ _ _ _ _ D0 (HBK.out.later l37) 0).mono ?_
  rintro e w142 ⟨rfl, b42⟩
  rw [there0]
  have l42 : Later w9.drew w142 := l37.trans b42
  refine hK.out _ _ ?_ (fun hHeld => ?_)
  · exact HT1.out _ l42
  clear hK K
  try simp only [Act.put, List.setIfInBounds_toArray, List.set_cons_zero, List.set_cons_succ]
  refine wpAnyN_takeD (some 63) (by rfl) (i := 43) (oi := _) (v := ?_) rfl (by kernel_rfl) (by kernel_rfl) (by kernel_rfl) (by kernel_rfl) (fun _ _ _ h => h) (Or.inl ⟨by rfl, ?_⟩) (by assumption) ?_
  rotate_left
  · intro w hSw; (try dsimp only at hSw); go_simp
    first | done | with_reducible rfl
  try simp only [Act.put, List.setIfInBounds_toArray, List.set_cons_zero, List.set_cons_succ]
  refine wpAnyN_takeD (some 64) (by rfl) (i := 44) (oi := _) (v := ?_) rfl (by kernel_rfl) (by kernel_rfl) (by kernel_rfl) (by kernel_rfl) (fun _ _ _ h => h) (Or.inl ⟨by rfl, ?_⟩) (by assumption) ?_
  rotate_left
  · intro w hSw; (try dsimp only at hSw); go_simp
    first | done | with_reducible rfl
  try simp only [Act.put, List.setIfInBounds_toArray, List.set_cons_zero, List.set_cons_succ]
  refine wpAnyN_takeD (some 65) (by rfl) (i := 45) (oi := _) (v := ?_) rfl (by kernel_rfl) (by kernel_rfl) (by kernel_rfl) (by kernel_rfl) (fun _ _ _ h => h) (Or.inl ⟨by rfl, ?_⟩) (by assumption) ?_
  rotate_left
  · intro w hSw; (try dsimp only at hSw); go_simp
    first | done | with_reducible rfl
  try simp only [Act.put, List.setIfInBounds_toArray, List.set_cons_zero, List.set_cons_succ]
  refine wpAnyN_takeD (some 66) (by rfl) (i := 46) (oi := _) (v := ?_) rfl (by kernel_rfl) (by kernel_rfl) (by kernel_rfl) (by kernel_rfl) (fun _ _ _ h => h) (Or.inl ⟨by rfl, ?_⟩) (by assumption) ?_
  rotate_left
  · intro w hSw; (try dsimp only at hSw); go_simp
    first | done | with_reducible rfl
  try simp only [Act.put, List.setIfInBounds_toArray, List.set_cons_zero, List.set_cons_succ]
  refine wpAnyN_ready (rs := [47]) (by kernel_rfl) (by simp) ?_
  refine AllReadyN.held rfl (by rfl) (fun K hK => ?_) AllReadyN.nil
  go_simp
  refine (plmay_calls _ _ _ _ _ _ _ _ _ _ _ _ _ De (bookE _) _ mayE).mono ?_
  rintro e w147 ⟨rfl, b47⟩
  have l47 : Later w9.drew w147 := l42.trans b47
  refine hK.out _ _ ?_ (fun hHeld => ?_)
  · exact HT1.out _ l47
  clear hK K
  try simp only [Act.put, List.setIfInBounds_toArray, List.set_cons_zero, List.set_cons_succ]
  refine wpAnyN_takeD (some 68) (by rfl) (i := 48) (oi := _) (v := ?_) rfl (by kernel_rfl) (by kernel_rfl) (by kernel_rfl) (by kernel_rfl) (fun _ _ _ h => h) (Or.inl ⟨by rfl, ?_⟩) (by assumption) ?_
  rotate_left
  · intro w hSw; (try dsimp only at hSw); go_simp
    first | done | with_reducible rfl
  try simp only [Act.put, List.setIfInBounds_toArray, List.set_cons_zero, List.set_cons_succ]
  refine wpAnyN_takeD (some 69) (by rfl) (i := 49) (oi := _) (v := ?_) rfl (by kernel_rfl) (by kernel_rfl) (by kernel_rfl) (by kernel_rfl) (fun _ _ _ h => h) (Or.inl ⟨by rfl, ?_⟩) (by assumption) ?_
  rotate_left
  · intro w hSw; (try dsimp only at hSw); go_simp
    first | done | with_reducible rfl
  try simp only [Act.put, List.setIfInBounds_toArray, List.set_cons_zero, List.set_cons_succ]
  refine wpAnyN_takeD (some 0) (by rfl) (i := 50) (oi := _) (v := ?_) rfl (by kernel_rfl) (by kernel_rfl) (by kernel_rfl) (by kernel_rfl) (fun _ _ _ h => h) (Or.inl ⟨by rfl, ?_⟩) (by assumption) ?_
  rotate_left
  · intro w hSw; (try dsimp only at hSw); go_simp
    first | done | with_reducible rfl
  try simp only [Act.put, List.setIfInBounds_toArray, List.set_cons_zero, List.set_cons_succ]
  refine wpAnyN_done (by kernel_rfl) ?_ _
  have HLL := hide (HL9.out.trans ((Later.refl w9).drew.trans l47))
  clear hHeld
  go_wp2_with fail
  go_ret
  exact ⟨rfl, HLL.out⟩
end Go.Proofs.YthncinngkfflgaaGreat

/- PlanTells: the walk. -/
set_option linter.unusedVariables false
set_option linter.unusedSimpArgs false
set_option maxRecDepth 100000
namespace Go.Proofs.YthncinngkfflgaaGreat
open Go.RowKit Go.Shelf
attribute [local go_sem ↓] Go.wp_at_zero Go.wp_at_succ

theorem EAnyF.later {w w' : World} {v : Value} {q : Rat} {f : Bool} (h : EAnyF w v q f) (hb : Later w w') : EAnyF w' v q f := by
  obtain ⟨s, A, n, c, s', A', n', c', e, h1, h2⟩ := h; exact ⟨s, A, n, c, s', A', n', c', e, EAny.later _ _ _ _ h1 hb, h2⟩
theorem ItsAny.later {w w' : World} {A : Option Addr} {n c : Nat} (h : ItsAny w A n c) (hb : Later w w') : ItsAny w' A n c := by
  refine ⟨h.1, h.2.1, fun i hi => ?_⟩
  obtain ⟨x, b, off, ha, e1, e2, e3, x0, x1, x2, x3, x4, x5, x6, x7, x8, x9, x10, x11, m1, m2, m3⟩ := h.2.2 i hi
  exact ⟨x, b, off, ha, e1, e2, e3, Later.cell hb x0, Later.cell hb x1, Later.cell hb x2, Later.cell hb x3, Later.cell hb x4, Later.cell hb x5, Later.cell hb x6, Later.cell hb x7, Later.cell hb x8, Later.cell hb x9, Later.cell hb x10, Later.cell hb x11, m1.later hb, m2.later hb, m3.later hb⟩
/-- a book that came in -/
def ArgBook (w : World) (v : Value) : Prop := ∃ A1 A2 A3 A4 n1 n2 n3 n4 c1 c2 c3 c4 hor now caps ords mks, v = .agg #[.slice A1 n1 c1, .int .i64 hor, .int .i64 now, .slice A2 n2 c2, .slice A3 n3 c3, .slice A4 n4 c4] ∧ ItsAny w A1 n1 c1 ∧ Sq 1 iCells w (.slice A2 n2 c2) caps ∧ Sq 4 oCells w (.slice A3 n3 c3) ords ∧ Sq 3 mCells w (.slice A4 n4 c4) mks ∧
  (IFit hor ∧ IFit now ∧ (∀ z ∈ caps, IFit z) ∧ (∀ o ∈ ords, o.fit) ∧ (∀ x ∈ mks, x.fit))
/-- a plan that came in -/
def ArgGrid (w : World) (v : Value) : Prop := ∃ A n c t, v = .slice A n c ∧ Grid w (.slice A n c) t ∧ (∀ r ∈ t, ∀ z ∈ r, -9223372036854775808 ≤ z ∧ z < 9223372036854775808) ∧ (∀ r ∈ t, r.length ≤ 35184372088832)

end Go.Proofs.YthncinngkfflgaaGreat

/- PlanCosts: the walk. -/
set_option linter.unusedVariables false
set_option linter.unusedSimpArgs false
set_option maxRecDepth 100000
namespace Go.Proofs.YthncinngkfflgaaGreat
open Go.RowKit Go.Shelf
attribute [local go_sem ↓] Go.wp_at_zero Go.wp_at_succ

end Go.Proofs.YthncinngkfflgaaGreat
