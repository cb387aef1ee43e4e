/- PlanDoubles: all costs twice; the plain law and the walk. -/
import Derived.Test.YthncinngkfflgaaGreatRows
import Derived.Test.YthncinngkfflgaaGreatQ12
import Derived.Test.YthncinngkfflgaaGreatQ25
import Derived.SizedLaws
import Derived.WalkKit
import Derived.ProofKit
import Derived.OpenShut
import Derived.ShutString
import Derived.ChangeOld
import Derived.Below
set_option linter.unusedVariables false
set_option linter.unusedSimpArgs false
set_option maxRecDepth 100000
namespace Go.Proofs.YthncinngkfflgaaGreat
open Go.RowKit Go.Shelf
attribute [local go_sem ↓] Go.wp_at_zero Go.wp_at_succ

/-- an item whose numbers may be: each is small enough to be doubled -/
def SzI (x : PItem) : Prop := x.sf = true → x.hf = true → x.bf = true → Sized x.s 11 ∧ Sized x.h 11 ∧ Sized x.b 11
theorem flag_pos {w : World} {s s' : Bool} {A A' : Option Addr} {n c n' c' : Nat} {f : Bool} (h : EFlag w (.agg #[.bool s, .slice A n c, .bool s', .slice A' n' c']) (if f then 1 else 0)) (hf : f = true) : 1 ≤ n' := by
  subst hf
  obtain ⟨a, A1, n1, c1, b, A2, n2, c2, y, e, h1, h2⟩ := h
  injection e with e; injection e with e; injection e with e1 e; injection e with e2 e; injection e with e3 e; injection e with e4 e
  injection e4 with e5 e6 e7
  subst e6
  rcases Nat.eq_zero_or_pos n' with h0 | h0
  · exfalso
    subst h0
    obtain ⟨neg, A9, n9, c9, l, e8, h8, h9, -⟩ := h1
    obtain ⟨A8, cap, e9, -⟩ := h8.form
    injection e8 with e8; injection e8 with e8; injection e8 with e8 e10; injection e10 with e10 _
    injection e10 with _ e11 _; injection e9 with _ e12 _
    have hl : l = [] := List.eq_nil_of_length_eq_zero (by omega)
    subst hl
    have hy : y = 0 := by rw [h9]; cases neg <;> simp [sgn, val]
    rw [hy] at h2
    simp at h2
  · exact h0
theorem sized_dbl {q : Rat} {k : Nat} (h : Sized q k) : Sized (q + q) (k + 1) := by
  have e : q + q = q * ((2 : Int) : Rat) := by grind
  rw [e]
  exact h.mul (sized_int (by omega) (by omega))

set_option maxHeartbeats 8000000 in
theorem few17s_calls (w : World) (A1 A2 A3 A4 : Option Addr) (n1 n2 n3 n4 c1 c2 c3 c4 : Nat) (hor now : Int) (caps : List Int) (ords : List POrd) (mks : List PMk) (hI : ItsAny w A1 n1 c1) (hC : Sq 1 iCells w (.slice A2 n2 c2) caps) (hO : Sq 4 oCells w (.slice A3 n3 c3) ords) (hM : Sq 3 mCells w (.slice A4 n4 c4) mks) (hh : IFit hor) (hn : IFit now) (fc : ∀ z ∈ caps, IFit z) (fo : ∀ o ∈ ords, o.fit) (fm : ∀ x ∈ mks, x.fit) :
    Calls Tryz.prog 22 #[.agg #[.slice A1 n1 c1, .int .i64 hor, .int .i64 now, .slice A2 n2 c2, .slice A3 n3 c3, .slice A4 n4 c4]] w (RetP w (∃ D : PBook, D.hor = hor ∧ D.now = now ∧ D.caps = caps ∧ D.ords = ords ∧ D.mks = mks ∧ BookIn w (.slice A1 n1 c1) (.slice A2 n2 c2) (.slice A3 n3 c3) (.slice A4 n4 c4) D ∧ ∀ x ∈ D.items, SzI x)) := by
  have HI := hide hI; have HC := hide hC; have HO := hide hO; have HM := hide hM
  have HFIT := hide (show IFit hor ∧ IFit now ∧ (∀ z ∈ caps, IFit z) ∧ (∀ o ∈ ords, o.fit) ∧ (∀ x ∈ mks, x.fit) from ⟨hh, hn, fc, fo, fm⟩)
  have L2 : Hid (n2 = caps.length) := hide hC.len_
  have L3 : Hid (n3 = ords.length) := hide hO.len_
  have L4 : Hid (n4 = mks.length) := hide hM.len_
  clear hI hC hO hM hh hn fc fo fm
  obtain ⟨W0, hW0⟩ : ∃ W0, W0 = (w.alloc (Obj.cells #[Value.slice A1 n1 c1, Value.int .i64 hor, Value.int .i64 now, Value.slice A2 n2 c2, Value.slice A3 n3 c3, Value.slice A4 n4 c4] 47)) := ⟨_, rfl⟩
  obtain ⟨hb0, r0, hsz0⟩ := boxes1 w [.slice A1 n1 c1, .int .i64 hor, .int .i64 now, .slice A2 n2 c2, .slice A3 n3 c3, .slice A4 n4 c4] 47 hW0
  have B0 := hide hb0; have HW0 := hide hW0
  have R0 := hide r0
  clear hb0 hW0 hsz0 r0
  go_enter Tryz.func22, Tryz.ntmps22
  go_upto_region 1 with fail
  rw [← HW0.out]
  have r_d := R0.out.later (Later.refl W0)
  have d0 := r_d.cell (i := 0) rfl; have d1 := r_d.cell (i := 1) rfl; have d2 := r_d.cell (i := 2) rfl; have d3 := r_d.cell (i := 3) rfl; have d4 := r_d.cell (i := 4) rfl; have d5 := r_d.cell (i := 5) rfl
  clear r_d
  go_wp2_with fail
  clear d0 d1 d2 d3 d4 d5
  go_loopw [3] (fun iv wr => ∃ j : Nat, j ≤ n1 ∧ j ≤ 10 ∧ iv = .int .i64 (j : Int) ∧ Hid (∀ i < j, ∃ x, ItemAt (ENum 12) w A1 i x ∧ SzI x) ∧ Later W0 wr) (fun iv _ => (10 - intOf iv).toNat)
  case atStart => exact ⟨0, by omega, by omega, rfl, hide fun i hi => by omega, Later.refl _⟩
  case round =>
    obtain ⟨j, hj, hj10, rfl, hpre, hL⟩ := hrel
    have HL := hide hL
    clear hL
    have r_d := R0.out.later HL.out
    have d0 := r_d.cell (i := 0) rfl; have d1 := r_d.cell (i := 1) rfl; have d2 := r_d.cell (i := 2) rfl; have d3 := r_d.cell (i := 3) rfl; have d4 := r_d.cell (i := 4) rfl; have d5 := r_d.cell (i := 5) rfl
    clear r_d
    by_cases hjn : j < n1 ∧ j < 10
    · obtain ⟨hj1', hj2'⟩ := hjn
      obtain ⟨x, b1, off1, rfl, e1, e2, e3, x0, x1, x2, x3, x4, x5, x6, x7, x8, x9, x10, x11, m1, m2, m3⟩ := HI.out.2.2 j hj1'
      obtain ⟨m1, l1⟩ := m1.parts
      obtain ⟨m2, l2⟩ := m2.parts
      obtain ⟨m3, l3⟩ := m3.parts
      have HXS := hide (show w.cell? ⟨b1, off1 + j * 12, none⟩ = some (.bool e1.a) ∧ w.cell? ⟨b1, off1 + j * 12 + 1, none⟩ = some (.slice e1.A e1.n e1.c) ∧ w.cell? ⟨b1, off1 + j * 12 + 2, none⟩ = some (.bool e1.a') ∧ w.cell? ⟨b1, off1 + j * 12 + 3, none⟩ = some (.slice e1.A' e1.n' e1.c') ∧ w.cell? ⟨b1, off1 + j * 12 + 4, none⟩ = some (.bool e2.a) ∧ w.cell? ⟨b1, off1 + j * 12 + 5, none⟩ = some (.slice e2.A e2.n e2.c) ∧ w.cell? ⟨b1, off1 + j * 12 + 6, none⟩ = some (.bool e2.a') ∧ w.cell? ⟨b1, off1 + j * 12 + 7, none⟩ = some (.slice e2.A' e2.n' e2.c') ∧ w.cell? ⟨b1, off1 + j * 12 + 8, none⟩ = some (.bool e3.a) ∧ w.cell? ⟨b1, off1 + j * 12 + 9, none⟩ = some (.slice e3.A e3.n e3.c) ∧ w.cell? ⟨b1, off1 + j * 12 + 10, none⟩ = some (.bool e3.a') ∧ w.cell? ⟨b1, off1 + j * 12 + 11, none⟩ = some (.slice e3.A' e3.n' e3.c') from ⟨x0, x1, x2, x3, x4, x5, x6, x7, x8, x9, x10, x11⟩)
      have M1 := hide m1; have M2 := hide m2; have M3 := hide m3
      have HLW := hide (B0.out.trans HL.out)
      have x0 := Later.cell HLW.out x0; have x1 := Later.cell HLW.out x1; have x2 := Later.cell HLW.out x2; have x3 := Later.cell HLW.out x3; have x4 := Later.cell HLW.out x4; have x5 := Later.cell HLW.out x5; have x6 := Later.cell HLW.out x6; have x7 := Later.cell HLW.out x7; have x8 := Later.cell HLW.out x8; have x9 := Later.cell HLW.out x9; have x10 := Later.cell HLW.out x10; have x11 := Later.cell HLW.out x11
      have hj0 : (0 : Int) ≤ (j : Int) := by omega
      have hj1 : (j : Int) < n1 := by omega
      have hj2 : (j : Int) < 10 := by omega
      have hw0 : IntKind.i64.wrap ((e1.n : Int) + (e1.n' : Int)) = (e1.n : Int) + (e1.n' : Int) := IntWalk.i64_in _ (by omega)
      have hw1 : IntKind.i64.wrap ((e1.n : Int) + (e1.n' : Int) + (e2.n : Int)) = (e1.n : Int) + (e1.n' : Int) + (e2.n : Int) := IntWalk.i64_in _ (by omega)
      have hw2 : IntKind.i64.wrap ((e1.n : Int) + (e1.n' : Int) + (e2.n : Int) + (e2.n' : Int)) = (e1.n : Int) + (e1.n' : Int) + (e2.n : Int) + (e2.n' : Int) := IntWalk.i64_in _ (by omega)
      have hw3 : IntKind.i64.wrap ((e1.n : Int) + (e1.n' : Int) + (e2.n : Int) + (e2.n' : Int) + (e3.n : Int)) = (e1.n : Int) + (e1.n' : Int) + (e2.n : Int) + (e2.n' : Int) + (e3.n : Int) := IntWalk.i64_in _ (by omega)
      have hw4 : IntKind.i64.wrap ((e1.n : Int) + (e1.n' : Int) + (e2.n : Int) + (e2.n' : Int) + (e3.n : Int) + (e3.n' : Int)) = (e1.n : Int) + (e1.n' : Int) + (e2.n : Int) + (e2.n' : Int) + (e3.n : Int) + (e3.n' : Int) := IntWalk.i64_in _ (by omega)
      clear m1 m2 m3
      by_cases g : (12 : Int) < (e1.n : Int) + (e1.n' : Int) + (e2.n : Int) + (e2.n' : Int) + (e3.n : Int) + (e3.n' : Int)
      · have t1 : decide ((12 : Int) < (e1.n : Int) + (e1.n' : Int) + (e2.n : Int) + (e2.n' : Int) + (e3.n : Int) + (e3.n' : Int)) = true := by simpa using g
        clear hpre
        go_wp2_with fail
        go_ret
        exact ⟨false, rfl, (B0.out.trans (HL.out.alloc _)), fun h => by cases h⟩
      · have t1 : decide ((12 : Int) < (e1.n : Int) + (e1.n' : Int) + (e2.n : Int) + (e2.n' : Int) + (e3.n : Int) + (e3.n' : Int)) = false := by simpa using g
        have HN : Hid (∀ i < j + 1, ∃ x, ItemAt (ENum 12) w (some ⟨b1, off1, none⟩) i x ∧ SzI x) := hide (fun i hi => by
          by_cases hij : i < j
          · exact hpre.out i hij
          · obtain rfl : i = j := by omega
            have g' : e1.n + e1.n' + e2.n + e2.n' + e3.n + e3.n' ≤ 12 := by omega
            obtain ⟨f1, k1⟩ := enum_of (rawR_small (m := 12) M1.out (by omega) (by omega)) (by omega)
            obtain ⟨f2, k2⟩ := enum_of (rawR_small (m := 12) M2.out (by omega) (by omega)) (by omega)
            obtain ⟨f3, k3⟩ := enum_of (rawR_small (m := 12) M3.out (by omega) (by omega)) (by omega)
            obtain ⟨x0, x1, x2, x3, x4, x5, x6, x7, x8, x9, x10, x11⟩ := HXS.out
            refine ⟨⟨x.s, x.h, x.b, f1, f2, f3⟩, ⟨b1, off1, rfl, e1, e2, e3, x0, x1, x2, x3, x4, x5, x6, x7, x8, x9, x10, x11, k1, k2, k3⟩, fun h1 h2 h3 => ?_⟩
            have z1 := flag_pos k1.2 h1; have z2 := flag_pos k2.2 h2; have z3 := flag_pos k3.2 h3
            exact ⟨(rawR_small (m := 10) M1.out (by omega) (by omega)).sized, (rawR_small (m := 10) M2.out (by omega) (by omega)).sized, (rawR_small (m := 10) M3.out (by omega) (by omega)).sized⟩)
        clear g
        go_wp2_with fail
        exact ⟨⟨j+1, by omega, by omega, by go_num, HN, HL.out.alloc _⟩, by simp [intOf]; omega⟩
    · have HEND : Hid (n1 < 10 → ∀ i < n1, ∃ x, ItemAt (ENum 12) w A1 i x ∧ SzI x) := hide (fun h i hi => hpre.out i (by omega))
      clear hpre
      have HFIN : Hid (n1 < 10 → n2 < 100 → n3 < 100 → n4 < 200 → ∃ D : PBook, D.hor = hor ∧ D.now = now ∧ D.caps = caps ∧ D.ords = ords ∧ D.mks = mks ∧ BookIn w (.slice A1 n1 c1) (.slice A2 n2 c2) (.slice A3 n3 c3) (.slice A4 n4 c4) D ∧ ∀ x ∈ D.items, SzI x) := hide (fun h1 h2 h3 h4 => by
        obtain ⟨Q, hQ⟩ := Go.Deep.choose_lt (α := PItem) (HEND.out h1)
        refine ⟨⟨(List.range n1).map Q, hor, now, caps, ords, mks⟩, rfl, rfl, rfl, rfl, rfl, ⟨?_, HC.out, HO.out, HM.out, by simp; omega, by show caps.length ≤ 1000; have := L2.out; omega, by show ords.length ≤ 1000; have := L3.out; omega, by show mks.length ≤ 1000; have := L4.out; omega, HFIT.out.1, HFIT.out.2.1, HFIT.out.2.2.1, HFIT.out.2.2.2.1, HFIT.out.2.2.2.2⟩, ?_⟩
        rotate_left
        · intro x hx
          obtain ⟨i, hi, rfl⟩ := List.mem_map.1 hx
          exact (hQ i (List.mem_range.1 hi)).2
        refine ⟨A1, c1, by simp, by simpa using HI.out.1, HI.out.2.1, fun i x hi => ?_⟩
        have hin : i < n1 := by
          have := (List.getElem?_eq_some_iff.1 hi).1
          simpa using this
        obtain ⟨b, off, ha, e1, e2, e3, x0, x1, x2, x3, x4, x5, x6, x7, x8, x9, x10, x11, k1, k2, k3⟩ := (hQ i hin).1
        simp [hin] at hi
        subst hi
        refine ⟨b, off, ha, e1, e2, e3, fun j u hj => ?_, k1, k2, k3⟩
        match j, hj with
        | 0, hj => simp [ICells.cells] at hj; subst hj; exact x0
        | 1, hj => simp [ICells.cells] at hj; subst hj; exact x1
        | 2, hj => simp [ICells.cells] at hj; subst hj; exact x2
        | 3, hj => simp [ICells.cells] at hj; subst hj; exact x3
        | 4, hj => simp [ICells.cells] at hj; subst hj; exact x4
        | 5, hj => simp [ICells.cells] at hj; subst hj; exact x5
        | 6, hj => simp [ICells.cells] at hj; subst hj; exact x6
        | 7, hj => simp [ICells.cells] at hj; subst hj; exact x7
        | 8, hj => simp [ICells.cells] at hj; subst hj; exact x8
        | 9, hj => simp [ICells.cells] at hj; subst hj; exact x9
        | 10, hj => simp [ICells.cells] at hj; subst hj; exact x10
        | 11, hj => simp [ICells.cells] at hj; subst hj; exact x11
        | k + 12, hj => simp [ICells.cells] at hj)
      have hb1 : decide ((j : Int) < n1 ∧ (j : Int) < 10) = false := by rw [decide_eq_false_iff_not]; omega
      by_cases g0 : (j : Int) < n1
      · have g5 : ¬ (j : Int) < 10 := by omega
        have g1 : ¬ (n1 : Int) < 10 := by omega
        go_wp2_with fail
        go_ret
        exact ⟨false, rfl, B0.out.trans HL.out, fun h => by cases h⟩
      ·
        by_cases g1 : (n1 : Int) < 10
        · by_cases g2 : (n2 : Int) < 100
          · by_cases g3 : (n3 : Int) < 100
            · by_cases g4 : (n4 : Int) < 200
              · have HOK := hide (HFIN.out (by omega) (by omega) (by omega) (by omega))
                go_wp2_with fail
                go_ret
                exact ⟨true, rfl, B0.out.trans HL.out, fun _ => HOK.out⟩
              · go_wp2_with fail
                go_ret
                exact ⟨false, rfl, B0.out.trans HL.out, fun h => by cases h⟩
            · go_wp2_with fail
              go_ret
              exact ⟨false, rfl, B0.out.trans HL.out, fun h => by cases h⟩
          · go_wp2_with fail
            go_ret
            exact ⟨false, rfl, B0.out.trans HL.out, fun h => by cases h⟩
        · go_wp2_with fail
          go_ret
          exact ⟨false, rfl, B0.out.trans HL.out, fun h => by cases h⟩


/-! ### the plain law -/
def dbI (x : PItem) : PItem := ⟨x.s + x.s, x.h + x.h, x.b + x.b, true, true, true⟩
def dbD (D : PBook) : PBook := { D with items := D.items.map dbI }
theorem db_may {D : PBook} (h : mayB D = true) : mayB (dbD D) = true := by
  have hm := mayB_iff.1 h
  have hl : (dbD D).items.length = D.items.length := by show (D.items.map dbI).length = _; rw [List.length_map]
  refine mayB_iff.2 ⟨⟨?_, hm.head.caps, by rw [hl]; exact hm.head.n1, by rw [hl]; exact hm.head.n3, hm.head.h1, by rw [hl]; exact hm.head.h6, hm.head.t0, hm.head.t40, hm.head.cl⟩, hm.ol, hm.ml, fun o ho => by rw [hl]; exact hm.ords o ho, fun o ho => by rw [hl]; exact hm.mks o ho, hm.oris, hm.mris⟩
  intro y hy
  obtain ⟨x, hx, rfl⟩ := List.mem_map.1 hy
  have := hm.head.items x hx
  unfold PItem.okB costB at this
  rw [Bool.and_eq_true, Bool.and_eq_true, Bool.and_eq_true, Bool.and_eq_true, Bool.and_eq_true, decide_eq_true_iff, decide_eq_true_iff, decide_eq_true_iff] at this
  obtain ⟨⟨-, h1⟩, ⟨-, h2⟩, -, h3⟩ := this
  unfold PItem.okB costB dbI
  simp only [Bool.true_and, Bool.and_eq_true, decide_eq_true_iff]
  exact ⟨by grind, by grind, by grind⟩
theorem db_termC (x : PItem) (q n : Int) : termC (dbI x) q n = termC x q n + termC x q n := by
  unfold termC dbI
  dsimp only
  split <;> grind
theorem item0_termC (q n : Int) : termC item0 q n = 0 := by unfold termC item0; dsimp only; split <;> grind
section
variable {D : PBook} (h : mayB D = true)
include h
theorem db_lev (r : List Int) (i : Int) (k : Nat) : lev (dbD D) r i k = lev D r i k := by
  have h' := db_may h
  have hd : ∀ i p, dueV (dbD D) i p = dueV D i p := fun i p => by unfold dueV; rw [if_pos h, if_pos h']; rfl
  have ht : ∀ i, thereV (dbD D) i = thereV D i := fun i => by unfold thereV; rw [if_pos h, if_pos h']; rfl
  induction k with
  | zero => exact ht i
  | succ k ih =>
    show lev (dbD D) r i k + (r.getD k 0 - dueV (dbD D) i (D.now + k)) = lev D r i k + (r.getD k 0 - dueV D i (D.now + k))
    rw [ih, hd]
theorem db_shape (t : List (List Int)) : shapeB (dbD D) t = shapeB D t := by
  unfold shapeB; rw [h, db_may h]
  show (_ && (decide (t.length = (D.items.map dbI).length) && _)) = _
  rw [List.length_map]; rfl
theorem db_costRow (x y : PItem) (hxy : ∀ q n, termC y q n = termC x q n + termC x q n) (r : List Int) (i k : Nat) : costRow (dbD D) y r i k = costRow D x r i k + costRow D x r i k := by
  induction k with
  | zero => show (0 : Rat) = 0 + 0; grind
  | succ k ih =>
    show costRow (dbD D) y r i k + termC y (r.getD k 0) (lev (dbD D) r i (k+1)) = costRow D x r i k + termC x (r.getD k 0) (lev D r i (k+1)) + (costRow D x r i k + termC x (r.getD k 0) (lev D r i (k+1)))
    rw [ih, db_lev h, hxy]; grind
theorem db_costTo (t : List (List Int)) (m : Nat) : costTo (dbD D) t m = costTo D t m + costTo D t m := by
  induction m with
  | zero => show (0 : Rat) = 0 + 0; grind
  | succ m ih =>
    show costTo (dbD D) t m + costRow (dbD D) ((D.items.map dbI).getD m item0) (t.getD m []) m D.hor.toNat = costTo D t m + costRow D (D.items.getD m item0) (t.getD m []) m D.hor.toNat + (costTo D t m + costRow D (D.items.getD m item0) (t.getD m []) m D.hor.toNat)
    rw [ih, db_costRow h (D.items.getD m item0) ((D.items.map dbI).getD m item0) (fun q n => ?_)]
    · grind
    · rw [List.getD_eq_getElem?_getD, List.getD_eq_getElem?_getD, List.getElem?_map]
      cases D.items[m]? with
      | none => show termC item0 q n = termC item0 q n + termC item0 q n; rw [item0_termC]; grind
      | some x => exact db_termC x q n
theorem db_cost (t : List (List Int)) : costV (dbD D) t = costV D t + costV D t := by
  unfold costV; rw [db_shape h, db_costTo h]
  split
  · rfl
  · grind
theorem db_allowed (t : List (List Int)) : allowedB (dbD D) t = allowedB D t := by
  have h' := db_may h
  have hf : ∀ i p, fixedV (dbD D) i p = fixedV D i p := fun i p => by unfold fixedV; rw [if_pos h, if_pos h']; rfl
  have hc : ∀ p, capV (dbD D) p = capV D p := fun p => by unfold capV; rw [h, h']; rfl
  have hfr : ∀ k m, freeB (dbD D) k m = freeB D k m := by
    intro k m
    induction m with
    | zero => rfl
    | succ m ih =>
      show (freeB (dbD D) k m || (fixedV (dbD D) m (D.now + k)).isNone) = (freeB D k m || (fixedV D m (D.now + k)).isNone)
      rw [ih, hf]
  have hp : ∀ k, periodP (dbD D) t k ↔ periodP D t k := by
    intro k
    have e1 : (dbD D).now + (k : Int) = D.now + k := rfl
    unfold periodP fixOk
    rw [e1, hfr, hc]
    simp only [hf]
  have e : AllowedP (dbD D) t ↔ AllowedP D t := by
    constructor
    · rintro ⟨a, b, c⟩
      exact ⟨shapeB_iff.1 (by rw [← db_shape h]; exact shapeB_iff.2 a), fun k hk => (hp k).1 (b k hk), fun i r hr => by rw [← db_lev h]; exact c i r hr⟩
    · rintro ⟨a, b, c⟩
      exact ⟨shapeB_iff.1 (by rw [db_shape h]; exact shapeB_iff.2 a), fun k hk => (hp k).2 (b k hk), fun i r hr => by rw [db_lev h]; exact c i r hr⟩
  exact Bool.eq_iff_iff.2 (by rw [allowedB_iff, allowedB_iff]; exact e)
end

section
variable {w : World} {o : Oper} {a : Act} {K : Act → World → Prop} {Q : Exit → Act → World → Prop}
theorem wp_append_ownC {P : Program} (s x : Operand) (t : TypeId)
    (ho : o.op = .call { callee := .builtin .append, args := #[s, x], argTypes := #[t, t] })
    (base : Nat) (e : TypeId) (z : Value) (size bytes : Nat) (ht : P.underlying t = some (.slice e)) (hinfo : (P.info? e).map (fun i => (i.zero, i.size, i.bytes)) = some (some z, size, bytes))
    (hzs : z.cells.size = size) (hsz : 0 < size) (hby : bytes ≤ 1024)
    (v : Value) (n : Nat) (xs : List Value) (hs : a.eval s = v) (hown : w.ownsRow base e size v n xs)
    (ad : Addr) (m c : Nat) (news : List Value) (hx : a.eval x = .slice (some ad) m c) (hl : news.length = m * size) (hnews : ∀ j u, news[j]? = some u → w.cell? (ad.add j) = some u) (h1 : ∀ u ∈ news, u.oneCell' = true)
    (hnm : n + m ≤ 4000000000) (hbase : base ≤ w.heap.size)
    (h : ∀ v' w', w'.ownsRow base e size v' (n + m) (xs ++ news) → w.grownBy w' v.ownBlock → (v'.ownBlock = v.ownBlock ∨ v'.ownBlock = some w.heap.size) → K (a.put o.dst v') w') : o.wp P a w K Q := by
  obtain ⟨i, hi, hz0, hz1, hz2⟩ := info_parts hinfo
  have h5 : (n + m) * bytes ≤ 4000000000 * 1024 := Nat.mul_le_mul hnm hby
  obtain ⟨v', w', hr, h2, h3, h4, h5⟩ := run_append_own_at (P := P) w base t o.type e i z size bytes ht hi hz0 hz1 hz2 hzs hsz v n xs hown ad m c news hl hnews h1 (by unfold maxLen; omega) (by omega) hbase
  unfold Oper.wp execOp
  simp only [ho, resolve, invoke, builtin, Sem.run_bind, Sem.run_pure, Result.andThen_ok, List.map_toArray, List.map_cons, List.map_nil, hs, hx, hr]
  exact h v' w' h2 h3 h5
end

theorem info_it : (Tryz.prog.info? 62).map (fun i => (i.zero, i.size, i.bytes)) = some (some (.agg #[.bool false, .slice none 0 0, .bool false, .slice none 0 0, .bool false, .slice none 0 0, .bool false, .slice none 0 0, .bool false, .slice none 0 0, .bool false, .slice none 0 0]), 12, 192) := by kernel_rfl
abbrev E3 := ICells × ICells × ICells
def cells12 (e : E3) : List Value := e.1.cells ++ e.2.1.cells ++ e.2.2.cells
theorem cells12_len (e : E3) : (cells12 e).length = 12 := rfl
/-- an item made of one's own numbers -/
def ItsE (W : World) (e : E3) (x : PItem) : Prop := OwnR W 0 (.agg e.1.cells.toArray) x.s ∧ OwnR W 0 (.agg e.2.1.cells.toArray) x.h ∧ OwnR W 0 (.agg e.2.2.cells.toArray) x.b
theorem ItsE.later {W W' : World} {e : E3} {x : PItem} (h : ItsE W e x) (hb : Later W W') : ItsE W' e x := ⟨OwnR.later h.1 hb, OwnR.later h.2.1 hb, OwnR.later h.2.2 hb⟩
/-- a row of items that is being built -/
def OutIts (w : World) (P : Nat → Prop) (lo : Nat) (v : Value) (l : List PItem) : Prop :=
  ∃ es : List E3, es.length = l.length ∧ w.ownsRow lo 62 12 v l.length (es.flatMap cells12) ∧
    On w (fun b => P b ∧ some b ≠ v.ownBlock) (fun W => ∀ (i : Nat) (e : E3) (x : PItem), es[i]? = some e → l[i]? = some x → ItsE W e x)
theorem OutIts.nil (w : World) (P : Nat → Prop) (lo : Nat) : OutIts w P lo (.slice none 0 0) [] := ⟨[], rfl, World.ownsRow_nil w lo _ 12, On.pure fun W i e x hi => by simp at hi⟩
theorem OutIts.later {w w' : World} {P : Nat → Prop} {lo : Nat} {v : Value} {l : List PItem} (h : OutIts w P lo v l) (hb : Later w w') : OutIts w' P lo v l := by
  obtain ⟨es, h1, h2, h4⟩ := h; exact ⟨es, h1, ownsRow_later h2 hb, h4.later hb⟩
theorem OutIts.only {w w' : World} {P : Nat → Prop} {lo g : Nat} {v : Value} {l : List PItem} (h : OutIts w P lo v l) (o : Only g w w') (hg : g < lo) (hP : ¬ P g) : OutIts w' P lo v l := by
  obtain ⟨es, h1, h2, h4⟩ := h; exact ⟨es, h1, ownsRow_only h2 o hg, h4.only o fun h => hP h.1⟩
theorem OutIts.lt {w : World} {P : Nat → Prop} {lo : Nat} {v : Value} {l : List PItem} (h : OutIts w P lo v l) : ∀ k, v.ownBlock = some k → lo ≤ k ∧ k < w.heap.size := by
  obtain ⟨es, h1, h2, -⟩ := h; exact World.ownsRow.lt h2
theorem OutIts.snoc {w W : World} {P : Nat → Prop} {lo : Nat} {v v' : Value} {l : List PItem} {e : E3} {x : PItem} (es : List E3) (h1 : es.length = l.length)
    (h4 : On w (fun b => P b ∧ some b ≠ v.ownBlock) (fun W => ∀ (i : Nat) (e : E3) (x : PItem), es[i]? = some e → l[i]? = some x → ItsE W e x))
    (hown : W.ownsRow lo 62 12 v' (l.length + 1) (es.flatMap cells12 ++ cells12 e)) (hg : w.grownBy W v.ownBlock) (hblk : v'.ownBlock = v.ownBlock ∨ v'.ownBlock = some w.heap.size)
    (hx : On w (fun b => P b ∧ some b ≠ v.ownBlock) (fun W => ItsE W e x)) : OutIts W P lo v' (l ++ [x]) := by
  refine ⟨es ++ [e], by simp [h1], by rw [List.length_append, List.flatMap_append, List.flatMap_cons, List.flatMap_nil, List.append_nil]; exact hown, ?_⟩
  have h6 : On W (fun b => P b ∧ some b ≠ v'.ownBlock) _ := (by
    obtain ⟨F, f1, f2⟩ := h4.and hx
    refine ⟨F, fun b hb => ⟨⟨(f1 b hb).1.1, ?_⟩, Nat.lt_of_lt_of_le (f1 b hb).2 hg.size⟩, fun W' hW' => f2 W' fun b hb => (hW' b hb).trans (hg.block b (f1 b hb).2 (f1 b hb).1.2)⟩
    rcases hblk with e | e
    · rw [e]; exact (f1 b hb).1.2
    · rw [e]; intro e2; injection e2 with e2; have := (f1 b hb).2; omega)
  refine h6.map fun W' ⟨k1, k2⟩ i e' x' hi hq => ?_
  by_cases hlt : i < es.length
  · rw [List.getElem?_append_left hlt] at hi
    rw [List.getElem?_append_left (by omega)] at hq
    exact k1 i e' x' hi hq
  · by_cases he : i = es.length
    · subst he
      rw [List.getElem?_append_right (Nat.le_refl _), Nat.sub_self] at hi
      rw [h1, List.getElem?_append_right (Nat.le_refl _), Nat.sub_self] at hq
      simp at hi hq
      subst hi hq
      exact k2
    · rw [List.getElem?_eq_none (by simp; omega)] at hi; cases hi
theorem wp_append_it {w : World} {o : Oper} {a : Act} {K : Act → World → Prop} {Q : Exit → Act → World → Prop} (s x : Operand) (ho : o.op = .call { callee := .builtin .append, args := #[s, x], argTypes := #[42, 42] })
    {P : Nat → Prop} {lo : Nat} {v : Value} {l : List PItem} {g : Nat} (e : E3) (y : PItem) (hs : a.eval s = v) (hown : OutIts w P lo v l) (hx : a.eval x = .slice (some ⟨g, 0, none⟩) 1 1) (hrow : Row w g 62 (cells12 e))
    (hel : On w (fun b => P b ∧ some b ≠ v.ownBlock) (fun W => ItsE W e y)) (hlen : l.length ≤ 3000000) (hbase : lo ≤ w.heap.size)
    (h : ∀ v' w', OutIts w' P lo v' (l ++ [y]) → w.grownBy w' v.ownBlock → (∃ A n c, v' = .slice A n c) → K (a.put o.dst v') w') : o.wp Tryz.prog a w K Q := by
  obtain ⟨es, h1, h2, h4⟩ := hown
  refine wp_append_ownC s x _ ho lo 62 _ 12 192 Tryz.underlying42 info_it rfl (by omega) (by omega) v l.length _ hs h2 ⟨g, 0, none⟩ 1 1 (cells12 e) hx rfl (fun j u hj => by rw [Go.WideShapes.add_plain, Nat.zero_add]; exact hrow.cell hj) (fun u hu => ?_) (by omega) hbase ?_
  · simp [cells12, ICells.cells] at hu
    rcases hu with rfl | rfl | rfl | rfl | rfl | rfl | rfl | rfl | rfl | rfl | rfl | rfl <;> rfl
  · intro v' w' k1 k2 k3
    refine h v' w' (OutIts.snoc es h1 h4 k1 k2 k3 hel) k2 ?_
    rcases k1.2 with ⟨e, -⟩ | ⟨g, cap, cur, e, -⟩
    · exact ⟨_, _, _, e⟩
    · exact ⟨_, _, _, e⟩

set_option maxHeartbeats 16000000 in
theorem plandoubles_walk (w : World) (v0 v1 : Value) (h0 : ArgBook w v0) (h1 : ArgGrid w v1) :
    Calls Tryz.prog 6 #[v0, v1] w (RetV w (.bool true)) := by
  obtain ⟨A1, A2, A3, A4, n1, n2, n3, n4, c1, c2, c3, c4, hor, now, caps, ords, mks, rfl, hi, hcp, hor', hmk, hft⟩ := h0
  have HI := hide hi; have HCP := hide hcp; have HOR := hide hor'; have HMK := hide hmk; have HFT := hide hft
  clear hi hcp hor' hmk hft
  obtain ⟨Aq, nq, cq, t, rfl, hg, hgf, hgl⟩ := h1
  have HG := hide hg; have HGF := hide hgf; have HGL := hide hgl
  clear hg hgf hgl
  obtain ⟨W0, hW0⟩ : ∃ W0, W0 = (w.alloc (Obj.cells #[Value.slice A1 n1 c1, Value.int .i64 hor, Value.int .i64 now, Value.slice A2 n2 c2, Value.slice A3 n3 c3, Value.slice A4 n4 c4] 47)) := ⟨_, rfl⟩
  obtain ⟨hb0, r0, hsz0⟩ := boxes1 w [.slice A1 n1 c1, .int .i64 hor, .int .i64 now, .slice A2 n2 c2, .slice A3 n3 c3, .slice A4 n4 c4] 47 hW0
  have B0 := hide hb0; have HW0 := hide hW0
  have R0 := hide r0
  clear hb0 hW0 hsz0 r0
  go_enter Tryz.func6, Tryz.ntmps6
  go_upto_region 1 with fail
  rw [← HW0.out]
  go_wp2_with fail
  ((with_reducible refine (awake17_calls W0).mono ?_); rintro e w1 ⟨rfl, b1⟩)
  have HL1 := hide b1
  clear b1
  have r_d := R0.out.later HL1.out
  have d0 := r_d.cell (i := 0) rfl; have d1 := r_d.cell (i := 1) rfl; have d2 := r_d.cell (i := 2) rfl; have d3 := r_d.cell (i := 3) rfl; have d4 := r_d.cell (i := 4) rfl; have d5 := r_d.cell (i := 5) rfl
  clear r_d
  go_wp2_with fail
  ((with_reducible refine (few17s_calls w1 _ _ _ _ _ _ _ _ _ _ _ _ hor now caps ords mks (HI.out.later (B0.out.trans HL1.out)) (HCP.out.later (B0.out.trans HL1.out)) (HOR.out.later (B0.out.trans HL1.out)) (HMK.out.later (B0.out.trans HL1.out)) HFT.out.1 HFT.out.2.1 HFT.out.2.2.1 HFT.out.2.2.2.1 HFT.out.2.2.2.2).mono ?_); rintro e w2 ⟨uf, rfl, b2, hf⟩)
  have HF := hide hf; have HL2 := hide (HL1.out.trans b2)
  have HLB := hide b2
  clear b2 hf d0 d1 d2 d3 d4 d5
  have r_d := R0.out.later HL2.out
  have d0 := r_d.cell (i := 0) rfl; have d1 := r_d.cell (i := 1) rfl; have d2 := r_d.cell (i := 2) rfl; have d3 := r_d.cell (i := 3) rfl; have d4 := r_d.cell (i := 4) rfl; have d5 := r_d.cell (i := 5) rfl
  clear r_d
  cases uf with
  | false =>
    go_wp2_with fail
    go_ret
    exact ⟨rfl, B0.out.trans HL2.out⟩
  | true =>
  obtain ⟨D, rfl, rfl, rfl, rfl, rfl, hbk, hsi⟩ := HF.out (by first | rfl | trivial)
  have H := hide (hbk.later HLB.out)
  have HSI := hide hsi
  clear hbk hsi HF HI HCP HOR HMK HFT HLB
  go_wp2_with fail
  ((with_reducible refine (fewplan_calls w2 _ _ _ t (HG.out.later (B0.out.trans HL2.out)) HGF.out HGL.out).mono ?_); rintro e w3 ⟨uf, rfl, b3, hf⟩)
  have HF := hide hf; have HL3 := hide (HL2.out.trans b3)
  have HK3 := hide b3
  clear b3 hf d0 d1 d2 d3 d4 d5
  have r_d := R0.out.later HL3.out
  have d0 := r_d.cell (i := 0) rfl; have d1 := r_d.cell (i := 1) rfl; have d2 := r_d.cell (i := 2) rfl; have d3 := r_d.cell (i := 3) rfl; have d4 := r_d.cell (i := 4) rfl; have d5 := r_d.cell (i := 5) rfl
  clear r_d
  cases uf with
  | false =>
    go_wp2_with fail
    go_ret
    exact ⟨rfl, B0.out.trans HL3.out⟩
  | true =>
  have HQ := hide ((HF.out (by first | rfl | trivial)).later HK3.out)
  have H3 := hide (H.out.later HK3.out)
  clear H HF HG HGF HGL
  have H := H3
  clear H3
  obtain ⟨u0, hu0⟩ : ∃ u, mayB D = u := ⟨_, rfl⟩
  have HU0 := hide hu0
  have L1 := hide H.out.lens.1
  have hn1 : n1 ≤ 1000 := by have := H.out.il; have := L1.out; omega
  clear hu0
  go_upto_region 6 with fail
  obtain ⟨w4, hw4⟩ : ∃ w4, w4 = w3.alloc (Obj.cells #[Value.slice A1 n1 c1, Value.int .i64 D.hor, Value.int .i64 D.now, Value.slice A2 n2 c2, Value.slice A3 n3 c3, Value.slice A4 n4 c4] 47) := ⟨_, rfl⟩
  obtain ⟨G, hG⟩ : ∃ G, G = w3.heap.size := ⟨_, rfl⟩
  have bw4 : Later w3 w4 := by rw [hw4]; exact (Later.refl _).alloc _
  have rG : Row w4 G 47 [.slice A1 n1 c1, .int .i64 D.hor, .int .i64 D.now, .slice A2 n2 c2, .slice A3 n3 c3, .slice A4 n4 c4] := by rw [hw4, hG]; exact Row.new _ _ _
  rw [← hw4, ← hG]
  have HG : Hid (w3.heap.size ≤ G) := hide (by rw [hG]; exact Nat.le_refl _)
  have hsa : w4.heap.size = G + 1 := by rw [hw4, World.size_alloc, hG]
  have RG4 := hide rG; have HL34 := hide bw4
  clear hw4 hG rG bw4 d0 d1 d2 d3 d4 d5
  have f0 := RG4.out.cell (i := 0) rfl; have f1 := RG4.out.cell (i := 1) rfl; have f2 := RG4.out.cell (i := 2) rfl; have f3 := RG4.out.cell (i := 3) rfl; have f4 := RG4.out.cell (i := 4) rfl; have f5 := RG4.out.cell (i := 5) rfl; have z0 := RG4.out.frozen 0
  go_upto_region 7 with fail
  obtain ⟨w5, hw5⟩ : ∃ w5, w5 = w4.setCell ⟨G, 0, none⟩ (.slice none 0 0) := ⟨_, rfl⟩
  have r5 : Row w5 G 47 [.slice none 0 0, .int .i64 D.hor, .int .i64 D.now, .slice A2 n2 c2, .slice A3 n3 c3, .slice A4 n4 c4] := by rw [hw5]; exact RG4.out.set_ 0 _
  have oo5 : Only G w4 w5 := by rw [hw5]; exact Only.one G w4 0 _
  rw [← hw5]
  have HW5 : Hid (w5.heap.size = G + 1) := hide (by rw [oo5.size]; exact hsa)
  have RC := hide r5; have HLC := hide (HL34.out.only oo5 HG.out)
  have HGL : Hid (w3.heap.size ≤ w5.heap.size) := hide HLC.out.size
  clear hw5 r5 oo5 hsa RG4 HL34 f0 f1 f2 f3 f4 f5 z0
  go_wp2_with fail
  go_loopw [6] (fun i wr => ∃ j : Nat, j ≤ n1 ∧ i = .int .i64 (j : Int) ∧ (∃ Av nv cv, Row wr G 47 [.slice Av nv cv, .int .i64 D.hor, .int .i64 D.now, .slice A2 n2 c2, .slice A3 n3 c3, .slice A4 n4 c4] ∧ OutIts wr (fun b => w5.heap.size ≤ b) w5.heap.size (.slice Av nv cv) ((D.items.take j).map dbI)) ∧ Later w3 wr ∧ w5.heap.size ≤ wr.heap.size) (fun i _ => (n1 - intOf i).toNat)
  case atStart => exact ⟨0, by omega, rfl, ⟨_, _, _, RC.out, OutIts.nil _ _ _⟩, HLC.out, Nat.le_refl _⟩
  case round =>
    obtain ⟨j, hj, rfl, ⟨Av, nv, cv, hR, hout⟩, hL, hsz⟩ := hrel
    have HL := hide hL; have RG := hide hR; have HOUT := hide hout; have HSZ := hide hsz
    clear hL hR hout hsz
    have r_d := R0.out.later (HL3.out.trans HL.out)
    have d0 := r_d.cell (i := 0) rfl; have d1 := r_d.cell (i := 1) rfl; have d2 := r_d.cell (i := 2) rfl; have d3 := r_d.cell (i := 3) rfl; have d4 := r_d.cell (i := 4) rfl; have d5 := r_d.cell (i := 5) rfl
    clear r_d
    by_cases hjn : j < n1
    · obtain ⟨x, hx⟩ : ∃ x, D.items[j]? = some x := ⟨D.items[j]'(by have := L1.out; omega), List.getElem?_eq_getElem _⟩
      obtain ⟨b1, off1, rfl, e1, e2, e3, x0, x1, x2, x3, x4, x5, x6, x7, x8, x9, x10, x11, m1, m2, m3⟩ := (H.out.later HL.out).its.at12 hx
      have hj0 : (0 : Int) ≤ (j : Int) := by omega
      have hj1 : (j : Int) < n1 := by omega
      have htk : D.items.take (j+1) = D.items.take j ++ [x] := by rw [List.take_add_one, hx]; rfl
      have htm : (D.items.take (j+1)).map dbI = (D.items.take j).map dbI ++ [dbI x] := by rw [htk, List.map_append]; rfl
      have hlm : ((D.items.take j).map dbI).length ≤ 1000 := by rw [List.length_map, List.length_take]; omega
      have HTM := hide htm; have HLM := hide hlm
      clear hx htk htm hlm
      go_upto_region 11 with fail
      obtain ⟨wA, hwA⟩ : ∃ wA, wA = wr.alloc (Obj.cells #[Value.bool e1.a, Value.slice e1.A e1.n e1.c, Value.bool e1.a', Value.slice e1.A' e1.n' e1.c', Value.bool e2.a, Value.slice e2.A e2.n e2.c, Value.bool e2.a', Value.slice e2.A' e2.n' e2.c', Value.bool e3.a, Value.slice e3.A e3.n e3.c, Value.bool e3.a', Value.slice e3.A' e3.n' e3.c'] 62) := ⟨_, rfl⟩
      obtain ⟨gA, hgA⟩ : ∃ gA, gA = wr.heap.size := ⟨_, rfl⟩
      have bA : Later wr wA := by rw [hwA]; exact (Later.refl _).alloc _
      have rA : Row wA gA 62 [.bool e1.a, .slice e1.A e1.n e1.c, .bool e1.a', .slice e1.A' e1.n' e1.c', .bool e2.a, .slice e2.A e2.n e2.c, .bool e2.a', .slice e2.A' e2.n' e2.c', .bool e3.a, .slice e3.A e3.n e3.c, .bool e3.a', .slice e3.A' e3.n' e3.c'] := by rw [hwA, hgA]; exact Row.new _ _ _
      rw [← hwA, ← hgA]
      have HA := hide bA; have RA := hide rA
      have RGA := hide (RG.out.later bA)
      have HGA : Hid (gA = wr.heap.size) := hide hgA
      have HSA : Hid (w5.heap.size ≤ wA.heap.size ∧ wr.heap.size ≤ wA.heap.size) := hide ⟨Nat.le_trans HSZ.out bA.size, bA.size⟩
      have M1 : Hid (RawR wA (.agg #[.bool e1.a, .slice e1.A e1.n e1.c, .bool e1.a', .slice e1.A' e1.n' e1.c']) x.s 12) := hide (RawR.later m1.1 bA)
      have M2 : Hid (RawR wA (.agg #[.bool e2.a, .slice e2.A e2.n e2.c, .bool e2.a', .slice e2.A' e2.n' e2.c']) x.h 12) := hide (RawR.later m2.1 bA)
      have M3 : Hid (RawR wA (.agg #[.bool e3.a, .slice e3.A e3.n e3.c, .bool e3.a', .slice e3.A' e3.n' e3.c']) x.b 12) := hide (RawR.later m3.1 bA)
      have HT1 : Hid (∀ w', Later wA w' → w'.cell? ⟨G, 0, none⟩ = some (.slice Av nv cv) ∧ w'.cell? ⟨G, 1, none⟩ = some (.int .i64 D.hor) ∧ w'.cell? ⟨G, 2, none⟩ = some (.int .i64 D.now) ∧ w'.cell? ⟨G, 3, none⟩ = some (.slice A2 n2 c2) ∧ w'.cell? ⟨G, 4, none⟩ = some (.slice A3 n3 c3) ∧ w'.cell? ⟨G, 5, none⟩ = some (.slice A4 n4 c4) ∧ w'.cell? ⟨gA, 0, none⟩ = some (.bool e1.a) ∧ w'.cell? ⟨gA, 1, none⟩ = some (.slice e1.A e1.n e1.c) ∧ w'.cell? ⟨gA, 2, none⟩ = some (.bool e1.a') ∧ w'.cell? ⟨gA, 3, none⟩ = some (.slice e1.A' e1.n' e1.c') ∧ w'.cell? ⟨gA, 4, none⟩ = some (.bool e2.a) ∧ w'.cell? ⟨gA, 5, none⟩ = some (.slice e2.A e2.n e2.c) ∧ w'.cell? ⟨gA, 6, none⟩ = some (.bool e2.a') ∧ w'.cell? ⟨gA, 7, none⟩ = some (.slice e2.A' e2.n' e2.c') ∧ w'.cell? ⟨gA, 8, none⟩ = some (.bool e3.a) ∧ w'.cell? ⟨gA, 9, none⟩ = some (.slice e3.A e3.n e3.c) ∧ w'.cell? ⟨gA, 10, none⟩ = some (.bool e3.a') ∧ w'.cell? ⟨gA, 11, none⟩ = some (.slice e3.A' e3.n' e3.c')) := hide fun w' hb => ⟨(RGA.out.later hb).cell rfl, (RGA.out.later hb).cell rfl, (RGA.out.later hb).cell rfl, (RGA.out.later hb).cell rfl, (RGA.out.later hb).cell rfl, (RGA.out.later hb).cell rfl, (RA.out.later hb).cell rfl, (RA.out.later hb).cell rfl, (RA.out.later hb).cell rfl, (RA.out.later hb).cell rfl, (RA.out.later hb).cell rfl, (RA.out.later hb).cell rfl, (RA.out.later hb).cell rfl, (RA.out.later hb).cell rfl, (RA.out.later hb).cell rfl, (RA.out.later hb).cell rfl, (RA.out.later hb).cell rfl, (RA.out.later hb).cell rfl⟩
      clear hwA hgA bA rA m1 m2 m3 x0 x1 x2 x3 x4 x5 x6 x7 x8 x9 x10 x11 d0 d1 d2 d3 d4 d5
      have hmx : Tryz.prog.follows .mixedOrders = true := by kernel_rfl
      refine wp_region_N (fun w' => w'.cell? ⟨G, 0, none⟩ = some (.slice Av nv cv) ∧ w'.cell? ⟨G, 1, none⟩ = some (.int .i64 D.hor) ∧ w'.cell? ⟨G, 2, none⟩ = some (.int .i64 D.now) ∧ w'.cell? ⟨G, 3, none⟩ = some (.slice A2 n2 c2) ∧ w'.cell? ⟨G, 4, none⟩ = some (.slice A3 n3 c3) ∧ w'.cell? ⟨G, 5, none⟩ = some (.slice A4 n4 c4) ∧ w'.cell? ⟨gA, 0, none⟩ = some (.bool e1.a) ∧ w'.cell? ⟨gA, 1, none⟩ = some (.slice e1.A e1.n e1.c) ∧ w'.cell? ⟨gA, 2, none⟩ = some (.bool e1.a') ∧ w'.cell? ⟨gA, 3, none⟩ = some (.slice e1.A' e1.n' e1.c') ∧ w'.cell? ⟨gA, 4, none⟩ = some (.bool e2.a) ∧ w'.cell? ⟨gA, 5, none⟩ = some (.slice e2.A e2.n e2.c) ∧ w'.cell? ⟨gA, 6, none⟩ = some (.bool e2.a') ∧ w'.cell? ⟨gA, 7, none⟩ = some (.slice e2.A' e2.n' e2.c') ∧ w'.cell? ⟨gA, 8, none⟩ = some (.bool e3.a) ∧ w'.cell? ⟨gA, 9, none⟩ = some (.slice e3.A e3.n e3.c) ∧ w'.cell? ⟨gA, 10, none⟩ = some (.bool e3.a') ∧ w'.cell? ⟨gA, 11, none⟩ = some (.slice e3.A' e3.n' e3.c')) [21] hmx (HT1.out _ (Later.refl wA).drew) (fun hHeld => ?_)
      refine wpAnyN_takeD (some 36) (by rfl) (i := 0) (oi := _) (v := ?_) rfl (by kernel_rfl) (by kernel_rfl) (by kernel_rfl) (by kernel_rfl) (fun _ _ _ h => h) (Or.inl ⟨by rfl, ?_⟩) (by assumption) ?_
      rotate_left
      · intro w hSw; (try dsimp only at hSw); go_simp
        first | done | with_reducible rfl
      try simp only [Act.put, List.setIfInBounds_toArray, List.set_cons_zero, List.set_cons_succ]
      refine wpAnyN_takeD (some 37) (by rfl) (i := 1) (oi := _) (v := ?_) rfl (by kernel_rfl) (by kernel_rfl) (by kernel_rfl) (by kernel_rfl) (fun _ _ _ h => h) (Or.inl ⟨by rfl, ?_⟩) (by assumption) ?_
      rotate_left
      · intro w hSw; (try dsimp only at hSw); go_simp
        first | done | with_reducible rfl
      try simp only [Act.put, List.setIfInBounds_toArray, List.set_cons_zero, List.set_cons_succ]
      refine wpAnyN_takeD (some 38) (by rfl) (i := 2) (oi := _) (v := ?_) rfl (by kernel_rfl) (by kernel_rfl) (by kernel_rfl) (by kernel_rfl) (fun _ _ _ h => h) (Or.inl ⟨by rfl, ?_⟩) (by assumption) ?_
      rotate_left
      · intro w hSw; (try dsimp only at hSw); go_simp
        first | done | with_reducible rfl
      try simp only [Act.put, List.setIfInBounds_toArray, List.set_cons_zero, List.set_cons_succ]
      refine wpAnyN_takeD (some 39) (by rfl) (i := 3) (oi := _) (v := ?_) rfl (by kernel_rfl) (by kernel_rfl) (by kernel_rfl) (by kernel_rfl) (fun _ _ _ h => h) (Or.inl ⟨by rfl, ?_⟩) (by assumption) ?_
      rotate_left
      · intro w hSw; (try dsimp only at hSw); go_simp
        first | done | with_reducible rfl
      try simp only [Act.put, List.setIfInBounds_toArray, List.set_cons_zero, List.set_cons_succ]
      refine wpAnyN_takeD (some 40) (by rfl) (i := 4) (oi := _) (v := ?_) rfl (by kernel_rfl) (by kernel_rfl) (by kernel_rfl) (by kernel_rfl) (fun _ _ _ h => h) (Or.inl ⟨by rfl, ?_⟩) (by assumption) ?_
      rotate_left
      · intro w hSw; (try dsimp only at hSw); go_simp
        first | done | with_reducible rfl
      try simp only [Act.put, List.setIfInBounds_toArray, List.set_cons_zero, List.set_cons_succ]
      refine wpAnyN_takeD (some 41) (by rfl) (i := 5) (oi := _) (v := ?_) rfl (by kernel_rfl) (by kernel_rfl) (by kernel_rfl) (by kernel_rfl) (fun _ _ _ h => h) (Or.inl ⟨by rfl, ?_⟩) (by assumption) ?_
      rotate_left
      · intro w hSw; (try dsimp only at hSw); go_simp
        first | done | with_reducible rfl
      try simp only [Act.put, List.setIfInBounds_toArray, List.set_cons_zero, List.set_cons_succ]
      refine wpAnyN_takeD (some 43) (by rfl) (i := 7) (oi := _) (v := ?_) rfl (by kernel_rfl) (by kernel_rfl) (by kernel_rfl) (by kernel_rfl) (fun _ _ _ h => h) (Or.inl ⟨by rfl, ?_⟩) (by assumption) ?_
      rotate_left
      · intro w hSw; (try dsimp only at hSw); go_simp
        first | done | with_reducible rfl
      try simp only [Act.put, List.setIfInBounds_toArray, List.set_cons_zero, List.set_cons_succ]
      refine wpAnyN_takeD (some 44) (by rfl) (i := 8) (oi := _) (v := ?_) rfl (by kernel_rfl) (by kernel_rfl) (by kernel_rfl) (by kernel_rfl) (fun _ _ _ h => h) (Or.inl ⟨by rfl, ?_⟩) (by assumption) ?_
      rotate_left
      · intro w hSw; (try dsimp only at hSw); go_simp
        first | done | with_reducible rfl
      try simp only [Act.put, List.setIfInBounds_toArray, List.set_cons_zero, List.set_cons_succ]
      refine wpAnyN_takeD (some 45) (by rfl) (i := 9) (oi := _) (v := ?_) rfl (by kernel_rfl) (by kernel_rfl) (by kernel_rfl) (by kernel_rfl) (fun _ _ _ h => h) (Or.inl ⟨by rfl, ?_⟩) (by assumption) ?_
      rotate_left
      · intro w hSw; (try dsimp only at hSw); go_simp
        first | done | with_reducible rfl
      try simp only [Act.put, List.setIfInBounds_toArray, List.set_cons_zero, List.set_cons_succ]
      refine wpAnyN_takeD (some 46) (by rfl) (i := 10) (oi := _) (v := ?_) rfl (by kernel_rfl) (by kernel_rfl) (by kernel_rfl) (by kernel_rfl) (fun _ _ _ h => h) (Or.inl ⟨by rfl, ?_⟩) (by assumption) ?_
      rotate_left
      · intro w hSw; (try dsimp only at hSw); go_simp
        first | done | with_reducible rfl
      try simp only [Act.put, List.setIfInBounds_toArray, List.set_cons_zero, List.set_cons_succ]
      refine wpAnyN_takeD (some 48) (by rfl) (i := 12) (oi := _) (v := ?_) rfl (by kernel_rfl) (by kernel_rfl) (by kernel_rfl) (by kernel_rfl) (fun _ _ _ h => h) (Or.inl ⟨by rfl, ?_⟩) (by assumption) ?_
      rotate_left
      · intro w hSw; (try dsimp only at hSw); go_simp
        first | done | with_reducible rfl
      try simp only [Act.put, List.setIfInBounds_toArray, List.set_cons_zero, List.set_cons_succ]
      refine wpAnyN_takeD (some 49) (by rfl) (i := 13) (oi := _) (v := ?_) rfl (by kernel_rfl) (by kernel_rfl) (by kernel_rfl) (by kernel_rfl) (fun _ _ _ h => h) (Or.inl ⟨by rfl, ?_⟩) (by assumption) ?_
      rotate_left
      · intro w hSw; (try dsimp only at hSw); go_simp
        first | done | with_reducible rfl
      try simp only [Act.put, List.setIfInBounds_toArray, List.set_cons_zero, List.set_cons_succ]
      refine wpAnyN_takeD (some 50) (by rfl) (i := 14) (oi := _) (v := ?_) rfl (by kernel_rfl) (by kernel_rfl) (by kernel_rfl) (by kernel_rfl) (fun _ _ _ h => h) (Or.inl ⟨by rfl, ?_⟩) (by assumption) ?_
      rotate_left
      · intro w hSw; (try dsimp only at hSw); go_simp
        first | done | with_reducible rfl
      try simp only [Act.put, List.setIfInBounds_toArray, List.set_cons_zero, List.set_cons_succ]
      refine wpAnyN_takeD (some 51) (by rfl) (i := 15) (oi := _) (v := ?_) rfl (by kernel_rfl) (by kernel_rfl) (by kernel_rfl) (by kernel_rfl) (fun _ _ _ h => h) (Or.inl ⟨by rfl, ?_⟩) (by assumption) ?_
      rotate_left
      · intro w hSw; (try dsimp only at hSw); go_simp
        first | done | with_reducible rfl
      try simp only [Act.put, List.setIfInBounds_toArray, List.set_cons_zero, List.set_cons_succ]
      refine wpAnyN_ready (rs := [6]) (by kernel_rfl) (by simp) ?_
      refine AllReadyN.held rfl (by rfl) (fun K hK => ?_) AllReadyN.nil
      go_simp
      refine (qadd_calls _ _ _ x.s x.s 12 12 (RawR.later M1.out (Later.refl wA).drew) (RawR.later M1.out (Later.refl wA).drew) (by omega)).mono ?_
      rintro e w106 ⟨v6, rfl, o6, b6⟩
      obtain ⟨s6, P6, q6, e6, P6', q6', e6', rfl, o6⟩ := o6.open_; have O6 := hide o6; clear o6
      refine hK.out _ _ ?_ (fun hHeld => ?_)
      · exact HT1.out _ ((Later.refl wA).drew.trans b6)
      clear hK K
      try simp only [Act.put, List.setIfInBounds_toArray, List.set_cons_zero, List.set_cons_succ]
      refine wpAnyN_ready (rs := [11]) (by kernel_rfl) (by simp) ?_
      refine AllReadyN.held rfl (by rfl) (fun K hK => ?_) AllReadyN.nil
      go_simp
      refine (qadd_calls _ _ _ x.h x.h 12 12 (RawR.later M2.out ((Later.refl wA).drew.trans b6)) (RawR.later M2.out ((Later.refl wA).drew.trans b6)) (by omega)).mono ?_
      rintro e w111 ⟨v11, rfl, o11, b11⟩
      obtain ⟨s11, P11, q11, e11, P11', q11', e11', rfl, o11⟩ := o11.open_; have O11 := hide o11; clear o11
      refine hK.out _ _ ?_ (fun hHeld => ?_)
      · exact HT1.out _ (((Later.refl wA).drew.trans b6).trans b11)
      clear hK K
      try simp only [Act.put, List.setIfInBounds_toArray, List.set_cons_zero, List.set_cons_succ]
      refine wpAnyN_ready (rs := [16]) (by kernel_rfl) (by simp) ?_
      refine AllReadyN.held rfl (by rfl) (fun K hK => ?_) AllReadyN.nil
      go_simp
      refine (qadd_calls _ _ _ x.b x.b 12 12 (RawR.later M3.out (((Later.refl wA).drew.trans b6).trans b11)) (RawR.later M3.out (((Later.refl wA).drew.trans b6).trans b11)) (by omega)).mono ?_
      rintro e w116 ⟨v16, rfl, o16, b16⟩
      obtain ⟨s16, P16, q16, e16, P16', q16', e16', rfl, o16⟩ := o16.open_; have O16 := hide o16; clear o16
      refine hK.out _ _ ?_ (fun hHeld => ?_)
      · exact HT1.out _ ((((Later.refl wA).drew.trans b6).trans b11).trans b16)
      clear hK K
      try simp only [Act.put, List.setIfInBounds_toArray, List.set_cons_zero, List.set_cons_succ]
      refine wpAnyN_takeD (some 53) (by rfl) (i := 17) (oi := _) (v := ?_) rfl (by kernel_rfl) (by kernel_rfl) (by kernel_rfl) (by kernel_rfl) (fun _ _ _ h => h) (Or.inl ⟨by rfl, ?_⟩) (by assumption) ?_
      rotate_left
      · intro w hSw; (try dsimp only at hSw); go_simp
        first | done | with_reducible rfl
      try simp only [Act.put, List.setIfInBounds_toArray, List.set_cons_zero, List.set_cons_succ]
      refine wpAnyN_ready (rs := [18]) (by kernel_rfl) (by simp) ?_
      refine AllReadyN.held rfl (by rfl) (fun K hK => ?_) AllReadyN.nil
      go_simp
      refine hK.out _ _ ?_ (fun hHeld => ?_)
      · exact HT1.out _ (((((Later.refl wA).drew.trans b6).trans b11).trans b16).alloc _)
      clear hK K
      try simp only [Act.put, List.setIfInBounds_toArray, List.set_cons_zero, List.set_cons_succ]
      refine wpAnyN_ready (rs := [19]) (by kernel_rfl) (by simp) ?_
      refine AllReadyN.held rfl (by rfl) (fun K hK => ?_) AllReadyN.nil
      have lB : Later wA w116 := ((((Later.refl wA).drew.trans b6).trans b11).trans b16)
      have z6 := (b11.trans b16); have hz1 := (Later.refl wA).drew.size; have hz2 := b6.size; have hz3 := b11.size; have hz4 := b16.size
      have hblt := HOUT.out.lt
      have hsA := HSA.out
      refine wp_append_it _ _ rfl ((⟨s6, P6, q6, e6, false, P6', q6', e6'⟩ : ICells), (⟨s11, P11, q11, e11, false, P11', q11', e11'⟩ : ICells), (⟨s16, P16, q16, e16, false, P16', q16', e16'⟩ : ICells)) (dbI x) rfl (HOUT.out.later ((HA.out.trans lB).alloc _)) rfl (Row.new w116 62 [.bool s6, .slice P6 q6 e6, .bool false, .slice P6' q6' e6', .bool s11, .slice P11 q11 e11, .bool false, .slice P11' q11' e11', .bool s16, .slice P16 q16 e16, .bool false, .slice P16' q16' e16']) ?_ (by have := HLM.out; omega) (by rw [World.size_alloc]; have := lB.size; omega) ?_
      · refine On.later ?_ ((Later.refl w116).alloc _)
        have y6 := (On.ownR O6.out).later z6; have y11 := (On.ownR O11.out).later b16; have y16 := On.ownR O16.out
        refine ((y6.mono (P' := fun b => w5.heap.size ≤ b ∧ some b ≠ (Value.slice Av nv cv).ownBlock) (fun b hb _ => ⟨by have h9 : wA.heap.size ≤ b := hb; omega, fun e => by have h9 : wA.heap.size ≤ b := hb; have := (hblt b e.symm).2; omega⟩)).and ((y11.mono (P' := fun b => w5.heap.size ≤ b ∧ some b ≠ (Value.slice Av nv cv).ownBlock) (fun b hb _ => ⟨by omega, fun e => by have := (hblt b e.symm).2; omega⟩)).and (y16.mono (P' := fun b => w5.heap.size ≤ b ∧ some b ≠ (Value.slice Av nv cv).ownBlock) (fun b hb _ => ⟨by omega, fun e => by have := (hblt b e.symm).2; omega⟩)))).map fun W hW => ?_
        exact ⟨hW.1, hW.2.1, hW.2.2⟩
      intro v8 w8 k1 k2 k3
      obtain ⟨A8, n8, c8, rfl⟩ := k3
      have hG5 := HW5.out
      have l19 : Later w3 w8 := ((HL.out.trans (HA.out.trans lB)).alloc _).grown k2 (fun q hq => by have := (hblt q hq).1; have := HGL.out; omega)
      have hr8 := (RGA.out.later (lB.alloc (Obj.cells #[Value.bool s6, Value.slice P6 q6 e6, Value.bool false, Value.slice P6' q6' e6', Value.bool s11, Value.slice P11 q11 e11, Value.bool false, Value.slice P11' q11' e11', Value.bool s16, Value.slice P16 q16 e16, Value.bool false, Value.slice P16' q16' e16'] 62))).grown k2 (fun e => by have := (hblt G e.symm).1; omega)
      have hx8 := (RA.out.later (lB.alloc (Obj.cells #[Value.bool s6, Value.slice P6 q6 e6, Value.bool false, Value.slice P6' q6' e6', Value.bool s11, Value.slice P11 q11 e11, Value.bool false, Value.slice P11' q11' e11', Value.bool s16, Value.slice P16 q16 e16, Value.bool false, Value.slice P16' q16' e16'] 62))).grown k2 (fun e => by have := (hblt gA e.symm).2; have := HGA.out; omega)
      have HT3 : Hid (w8.cell? ⟨G, 0, none⟩ = some (.slice Av nv cv) ∧ w8.cell? ⟨G, 1, none⟩ = some (.int .i64 D.hor) ∧ w8.cell? ⟨G, 2, none⟩ = some (.int .i64 D.now) ∧ w8.cell? ⟨G, 3, none⟩ = some (.slice A2 n2 c2) ∧ w8.cell? ⟨G, 4, none⟩ = some (.slice A3 n3 c3) ∧ w8.cell? ⟨G, 5, none⟩ = some (.slice A4 n4 c4) ∧ w8.cell? ⟨gA, 0, none⟩ = some (.bool e1.a) ∧ w8.cell? ⟨gA, 1, none⟩ = some (.slice e1.A e1.n e1.c) ∧ w8.cell? ⟨gA, 2, none⟩ = some (.bool e1.a') ∧ w8.cell? ⟨gA, 3, none⟩ = some (.slice e1.A' e1.n' e1.c') ∧ w8.cell? ⟨gA, 4, none⟩ = some (.bool e2.a) ∧ w8.cell? ⟨gA, 5, none⟩ = some (.slice e2.A e2.n e2.c) ∧ w8.cell? ⟨gA, 6, none⟩ = some (.bool e2.a') ∧ w8.cell? ⟨gA, 7, none⟩ = some (.slice e2.A' e2.n' e2.c') ∧ w8.cell? ⟨gA, 8, none⟩ = some (.bool e3.a) ∧ w8.cell? ⟨gA, 9, none⟩ = some (.slice e3.A e3.n e3.c) ∧ w8.cell? ⟨gA, 10, none⟩ = some (.bool e3.a') ∧ w8.cell? ⟨gA, 11, none⟩ = some (.slice e3.A' e3.n' e3.c')) := hide ⟨hr8.cell rfl, hr8.cell rfl, hr8.cell rfl, hr8.cell rfl, hr8.cell rfl, hr8.cell rfl, hx8.cell rfl, hx8.cell rfl, hx8.cell rfl, hx8.cell rfl, hx8.cell rfl, hx8.cell rfl, hx8.cell rfl, hx8.cell rfl, hx8.cell rfl, hx8.cell rfl, hx8.cell rfl, hx8.cell rfl⟩
      have HR8 := hide hr8; have HK1 := hide k1; have HK2 := hide k2
      have hsz8 : w5.heap.size ≤ w8.heap.size := by have h1 := k2.size; rw [World.size_alloc] at h1; have := lB.size; omega
      have HS8 := hide hsz8
      have f0 := hr8.cell (i := 0) rfl; have f1 := hr8.cell (i := 1) rfl; have f2 := hr8.cell (i := 2) rfl; have f3 := hr8.cell (i := 3) rfl; have f4 := hr8.cell (i := 4) rfl; have f5 := hr8.cell (i := 5) rfl; have z0 := hr8.frozen 0
      clear k1 k2 hr8 hx8 hblt hsA hG5 hsz8
      refine hK.out _ _ ?_ (fun hHeld => ?_)
      · exact HT3.out
      clear hK K
      try simp only [Act.put, List.setIfInBounds_toArray, List.set_cons_zero, List.set_cons_succ]
      refine wpAnyN_takeD (some 56) (by rfl) (i := 20) (oi := _) (v := ?_) rfl (by kernel_rfl) (by kernel_rfl) (by kernel_rfl) (by kernel_rfl) (fun _ _ _ h => h) (Or.inl ⟨by rfl, ?_⟩) (by assumption) ?_
      rotate_left
      · intro w hSw; (try dsimp only at hSw); go_simp
        first | done | with_reducible rfl
      try simp only [Act.put, List.setIfInBounds_toArray, List.set_cons_zero, List.set_cons_succ]
      refine wpAnyN_ready (rs := [21]) (by kernel_rfl) (by simp) ?_
      refine AllReadyN.free rfl (by rfl) (by kernel_rfl) (fun K hK => ?_) AllReadyN.nil
      go_simp
      refine hK.out _ _ ?_
      clear hK K
      try simp only [Act.put, List.setIfInBounds_toArray, List.set_cons_zero, List.set_cons_succ]
      refine wpAnyN_done (by kernel_rfl) ?_ _
      have oo := Only.one G w8 0 (.slice A8 n8 c8)
      have hG5 := HW5.out
      have HE8 := hide (HR8.out.set_ 0 (.slice A8 n8 c8)); have HE9 := hide (HK1.out.only oo (by omega) (by omega)); have HE10 := hide (l19.only oo HG.out)
      have HE11 : Hid (w5.heap.size ≤ (w8.setCell ⟨G, 0, none⟩ (.slice A8 n8 c8)).heap.size) := hide (by rw [oo.size]; exact HS8.out)
      clear hHeld f0 f1 f2 f3 f4 f5 z0 oo hG5
      go_wp2_with fail
      exact ⟨⟨j+1, by omega, by go_num, ⟨_, _, _, HE8.out, by rw [HTM.out]; exact HE9.out⟩, HE10.out, HE11.out⟩, by simp [intOf]; omega⟩
    · have hj1 : ¬ (j : Int) < n1 := by omega
      obtain ⟨es, hes, hown, hon⟩ := HOUT.out
      rw [List.take_of_length_le (by have := L1.out; omega)] at hes hown hon
      have hsq := Sq.of_own cells12_len (by rw [hes]; exact hown)
      have hit := hon.now
      have HSQ := hide hsq; have HIT := hide hit; have HES := hide hes
      clear hes hown hon hsq hit
      have f0 := RG.out.cell (i := 0) rfl; have f1 := RG.out.cell (i := 1) rfl; have f2 := RG.out.cell (i := 2) rfl; have f3 := RG.out.cell (i := 3) rfl; have f4 := RG.out.cell (i := 4) rfl; have f5 := RG.out.cell (i := 5) rfl; have z0 := RG.out.frozen 0
      go_wp2_with fail
      ((with_reducible refine (rmay_calls _ _ _ _ _ _ _ _ _ _ _ _ _ D (H.out.later HL.out) u0 HU0.out).mono ?_); rintro e w6 ⟨rfl, b6⟩)
      have HL6 := hide (HL.out.trans b6); have HB6 := hide b6
      have RG6 := hide (RG.out.later b6)
      clear b6 d0 d1 d2 d3 d4 d5 f0 f1 f2 f3 f4 f5 z0
      have r_d := R0.out.later (HL3.out.trans HL6.out)
      have d0 := r_d.cell (i := 0) rfl; have d1 := r_d.cell (i := 1) rfl; have d2 := r_d.cell (i := 2) rfl; have d3 := r_d.cell (i := 3) rfl; have d4 := r_d.cell (i := 4) rfl; have d5 := r_d.cell (i := 5) rfl
      clear r_d
      cases u0 with
      | false =>
        go_wp2_with fail
        go_ret
        exact ⟨rfl, B0.out.trans (HL3.out.trans HL6.out)⟩
      | true =>
      have HB : Hid (BookIn wr (.slice Av nv cv) (.slice A2 n2 c2) (.slice A3 n3 c3) (.slice A4 n4 c4) (dbD D)) := hide
        { its := by
            obtain ⟨A9, c9, e9, h91, h92, h93⟩ := HSQ.out
            refine ⟨A9, c9, by rw [e9, HES.out]; rfl, by show (D.items.map dbI).length ≤ c9; rw [← HES.out]; exact h91, h92, fun i y hy => ?_⟩
            have hy' : (D.items.map dbI)[i]? = some y := hy
            have hil : i < es.length := by rw [HES.out]; exact (List.getElem?_eq_some_iff.1 hy').1
            obtain ⟨e, he⟩ : ∃ e, es[i]? = some e := ⟨es[i], List.getElem?_eq_getElem _⟩
            obtain ⟨b, off, ha, hc⟩ := h93 i e he
            obtain ⟨o1, o2, o3⟩ := HIT.out i e y he hy'
            rw [List.getElem?_map] at hy'
            cases hxi : D.items[i]? with
            | none => rw [hxi] at hy'; cases hy'
            | some x =>
              rw [hxi] at hy'
              injection hy' with hy'
              subst hy'
              have hok := (mayB_iff.1 HU0.out).head.items x (List.mem_of_getElem? hxi)
              unfold PItem.okB costB at hok
              simp only [Bool.and_eq_true] at hok
              obtain ⟨z1, z2, z3⟩ := HSI.out x (List.mem_of_getElem? hxi) hok.1.1 hok.2.1.1 hok.2.2.1
              have s1 := sized_dbl z1; have s2 := sized_dbl z2; have s3 := sized_dbl z3
              exact ⟨b, off, ha, e.1, e.2.1, e.2.2, fun j u hj => hc j u hj, ⟨OwnR.raw o1 s1, EFlag.of_own o1 (s1.mono (by omega))⟩, ⟨OwnR.raw o2 s2, EFlag.of_own o2 (s2.mono (by omega))⟩, ⟨OwnR.raw o3 s3, EFlag.of_own o3 (s3.mono (by omega))⟩⟩,
          caps := (H.out.later HL.out).caps, ords := (H.out.later HL.out).ords, mks := (H.out.later HL.out).mks,
          il := by (show (D.items.map dbI).length ≤ 1000); rw [List.length_map]; exact H.out.il,
          cl := H.out.cl, ol := H.out.ol, ml := H.out.ml, hfit := H.out.hfit, nfit := H.out.nfit, cfit := H.out.cfit, ofit := H.out.ofit, mfit := H.out.mfit }
      obtain ⟨us, hus⟩ : ∃ u, shapeB D t = u := ⟨_, rfl⟩
      obtain ⟨ua, hua⟩ : ∃ u, allowedB D t = u := ⟨_, rfl⟩
      obtain ⟨zc, hzc⟩ : ∃ z, costV D t = z := ⟨_, rfl⟩
      have HUS2 : Hid (shapeB (dbD D) t = us) := hide (by rw [db_shape HU0.out]; exact hus)
      have HUA2 : Hid (allowedB (dbD D) t = ua) := hide (by rw [db_allowed HU0.out]; exact hua)
      have HZC2 : Hid (costV (dbD D) t = zc + zc) := hide (by rw [db_cost HU0.out, hzc])
      have HUS := hide hus; have HUA := hide hua; have HZC := hide hzc
      clear hus hua hzc
      go_wp2_with fail
      ((refine (plcost_calls _ _ _ _ _ _ _ _ _ _ _ _ _ D (H.out.later HL6.out) _ _ _ t (HQ.out.later HL6.out)).mono ?_); rintro e w7 ⟨v8, rfl, o8, hs8, b7⟩)
      rw [HUS.out]
      rw [HZC.out] at o8 hs8
      obtain ⟨s8, P8, q8, e8, P8', q8', e8', rfl, o8⟩ := o8.open_; have O8 := hide o8; clear o8
      have HS := hide hs8
      have HL7 := hide (HL6.out.trans b7); have HB7 := hide (HB6.out.trans b7)
      have RG7 := hide (RG6.out.later b7)
      clear b7 hs8 d0 d1 d2 d3 d4 d5
      go_upto_region 15 with fail
      obtain ⟨w8, hw8⟩ : ∃ w8, w8 = w7.alloc (Obj.cells #[Value.bool s8, Value.slice P8 q8 e8, Value.bool false, Value.slice P8' q8' e8'] 37) := ⟨_, rfl⟩
      obtain ⟨g8, hg8⟩ : ∃ g8, g8 = w7.heap.size := ⟨_, rfl⟩
      have bw8 : Later w7 w8 := by rw [hw8]; exact (Later.refl _).alloc _
      have rg8 : Row w8 g8 37 [.bool s8, .slice P8 q8 e8, .bool false, .slice P8' q8' e8'] := by rw [hw8, hg8]; exact Row.new _ _ _
      rw [← hw8, ← hg8]
      have HL8 := hide (HL7.out.trans bw8); have HB8 := hide (HB7.out.trans bw8)
      have RG8 := hide (RG7.out.later bw8)
      have O8b := hide (OwnR.later O8.out bw8)
      have R8 := hide rg8
      clear O8 bw8 rg8 hw8 hg8
      have f0 := RG8.out.cell (i := 0) rfl; have f1 := RG8.out.cell (i := 1) rfl; have f2 := RG8.out.cell (i := 2) rfl; have f3 := RG8.out.cell (i := 3) rfl; have f4 := RG8.out.cell (i := 4) rfl; have f5 := RG8.out.cell (i := 5) rfl; have z0 := RG8.out.frozen 0
      go_wp2_with fail
      ((refine (plcost_calls _ _ _ _ _ _ _ _ _ _ _ _ _ (dbD D) (HB.out.later HB8.out) _ _ _ t (HQ.out.later HL8.out)).mono ?_); rintro e w11 ⟨v10, rfl, o10, hs10, b11⟩)
      rw [HUS2.out]
      rw [HZC2.out] at o10 hs10
      obtain ⟨s10, P10, q10, e10, P10', q10', e10', rfl, o10⟩ := o10.open_; have O10 := hide o10; clear o10
      have HS2 := hide hs10
      have HL11 := hide (HL8.out.trans b11); have HB11 := hide (HB8.out.trans b11); have HL811 := hide b11
      have RG11 := hide (RG8.out.later b11)
      clear b11 hs10 f0 f1 f2 f3 f4 f5 z0
      go_upto_region 16 with fail
      obtain ⟨w12, hw12⟩ : ∃ w12, w12 = w11.alloc (Obj.cells #[Value.bool s10, Value.slice P10 q10 e10, Value.bool false, Value.slice P10' q10' e10'] 37) := ⟨_, rfl⟩
      obtain ⟨g10, hg10⟩ : ∃ g10, g10 = w11.heap.size := ⟨_, rfl⟩
      have bw12 : Later w11 w12 := by rw [hw12]; exact (Later.refl _).alloc _
      have rg10 : Row w12 g10 37 [.bool s10, .slice P10 q10 e10, .bool false, .slice P10' q10' e10'] := by rw [hw12, hg10]; exact Row.new _ _ _
      rw [← hw12, ← hg10]
      have HL312 := hide (HL11.out.trans bw12); have HLZ := hide (HL3.out.trans HL312.out); have HLB2 := hide (HB11.out.trans bw12); have HLB12 := hide bw12; have HL812 := hide (HL811.out.trans bw12)
      have O8 := O8b
      have hrx := R0.out.later (HLZ.out.trans (Later.refl w12).drew)
      have hrg := (RG11.out.later bw12).later (Later.refl w12).drew
      have hr8 := (R8.out.later HL812.out).later (Later.refl w12).drew
      have hr12 := rg10.later (Later.refl w12).drew
      have HT1 : Hid (∀ w', Later w12.drew w' → w'.cell? ⟨w.heap.size, 0, none⟩ = some (.slice A1 n1 c1) ∧ w'.cell? ⟨w.heap.size, 1, none⟩ = some (.int .i64 D.hor) ∧ w'.cell? ⟨w.heap.size, 2, none⟩ = some (.int .i64 D.now) ∧ w'.cell? ⟨w.heap.size, 3, none⟩ = some (.slice A2 n2 c2) ∧ w'.cell? ⟨w.heap.size, 4, none⟩ = some (.slice A3 n3 c3) ∧ w'.cell? ⟨w.heap.size, 5, none⟩ = some (.slice A4 n4 c4) ∧ w'.cell? ⟨G, 0, none⟩ = some (.slice Av nv cv) ∧ w'.cell? ⟨G, 1, none⟩ = some (.int .i64 D.hor) ∧ w'.cell? ⟨G, 2, none⟩ = some (.int .i64 D.now) ∧ w'.cell? ⟨G, 3, none⟩ = some (.slice A2 n2 c2) ∧ w'.cell? ⟨G, 4, none⟩ = some (.slice A3 n3 c3) ∧ w'.cell? ⟨G, 5, none⟩ = some (.slice A4 n4 c4) ∧ w'.cell? ⟨g8, 0, none⟩ = some (.bool s8) ∧ w'.cell? ⟨g8, 1, none⟩ = some (.slice P8 q8 e8) ∧ w'.cell? ⟨g8, 2, none⟩ = some (.bool false) ∧ w'.cell? ⟨g8, 3, none⟩ = some (.slice P8' q8' e8') ∧ w'.cell? ⟨g10, 0, none⟩ = some (.bool s10) ∧ w'.cell? ⟨g10, 1, none⟩ = some (.slice P10 q10 e10) ∧ w'.cell? ⟨g10, 2, none⟩ = some (.bool false) ∧ w'.cell? ⟨g10, 3, none⟩ = some (.slice P10' q10' e10')) := hide fun w' hb => ⟨(hrx.later hb).cell rfl, (hrx.later hb).cell rfl, (hrx.later hb).cell rfl, (hrx.later hb).cell rfl, (hrx.later hb).cell rfl, (hrx.later hb).cell rfl, (hrg.later hb).cell rfl, (hrg.later hb).cell rfl, (hrg.later hb).cell rfl, (hrg.later hb).cell rfl, (hrg.later hb).cell rfl, (hrg.later hb).cell rfl, (hr8.later hb).cell rfl, (hr8.later hb).cell rfl, (hr8.later hb).cell rfl, (hr8.later hb).cell rfl, (hr12.later hb).cell rfl, (hr12.later hb).cell rfl, (hr12.later hb).cell rfl, (hr12.later hb).cell rfl⟩
      clear hrx hrg hr8 hr12 rg10 bw12 hw12 hg10
      have hmx : Tryz.prog.follows .mixedOrders = true := by kernel_rfl
      refine wp_region_N (fun w' => w'.cell? ⟨w.heap.size, 0, none⟩ = some (.slice A1 n1 c1) ∧ w'.cell? ⟨w.heap.size, 1, none⟩ = some (.int .i64 D.hor) ∧ w'.cell? ⟨w.heap.size, 2, none⟩ = some (.int .i64 D.now) ∧ w'.cell? ⟨w.heap.size, 3, none⟩ = some (.slice A2 n2 c2) ∧ w'.cell? ⟨w.heap.size, 4, none⟩ = some (.slice A3 n3 c3) ∧ w'.cell? ⟨w.heap.size, 5, none⟩ = some (.slice A4 n4 c4) ∧ w'.cell? ⟨G, 0, none⟩ = some (.slice Av nv cv) ∧ w'.cell? ⟨G, 1, none⟩ = some (.int .i64 D.hor) ∧ w'.cell? ⟨G, 2, none⟩ = some (.int .i64 D.now) ∧ w'.cell? ⟨G, 3, none⟩ = some (.slice A2 n2 c2) ∧ w'.cell? ⟨G, 4, none⟩ = some (.slice A3 n3 c3) ∧ w'.cell? ⟨G, 5, none⟩ = some (.slice A4 n4 c4) ∧ w'.cell? ⟨g8, 0, none⟩ = some (.bool s8) ∧ w'.cell? ⟨g8, 1, none⟩ = some (.slice P8 q8 e8) ∧ w'.cell? ⟨g8, 2, none⟩ = some (.bool false) ∧ w'.cell? ⟨g8, 3, none⟩ = some (.slice P8' q8' e8') ∧ w'.cell? ⟨g10, 0, none⟩ = some (.bool s10) ∧ w'.cell? ⟨g10, 1, none⟩ = some (.slice P10 q10 e10) ∧ w'.cell? ⟨g10, 2, none⟩ = some (.bool false) ∧ w'.cell? ⟨g10, 3, none⟩ = some (.slice P10' q10' e10')) [] hmx (HT1.out _ (Later.refl _)) (fun hHeld => ?_)
      refine wpAnyN_takeD (some 72) (by rfl) (i := 0) (oi := _) (v := ?_) rfl (by kernel_rfl) (by kernel_rfl) (by kernel_rfl) (by kernel_rfl) (fun _ _ _ h => h) (Or.inl ⟨by rfl, ?_⟩) (by assumption) ?_
      rotate_left
      · intro w hSw; (try dsimp only at hSw); go_simp
        first | done | with_reducible rfl
      try simp only [Act.put, List.setIfInBounds_toArray, List.set_cons_zero, List.set_cons_succ]
      refine wpAnyN_takeD (some 73) (by rfl) (i := 1) (oi := _) (v := ?_) rfl (by kernel_rfl) (by kernel_rfl) (by kernel_rfl) (by kernel_rfl) (fun _ _ _ h => h) (Or.inl ⟨by rfl, ?_⟩) (by assumption) ?_
      rotate_left
      · intro w hSw; (try dsimp only at hSw); go_simp
        first | done | with_reducible rfl
      try simp only [Act.put, List.setIfInBounds_toArray, List.set_cons_zero, List.set_cons_succ]
      refine wpAnyN_takeD (some 74) (by rfl) (i := 2) (oi := _) (v := ?_) rfl (by kernel_rfl) (by kernel_rfl) (by kernel_rfl) (by kernel_rfl) (fun _ _ _ h => h) (Or.inl ⟨by rfl, ?_⟩) (by assumption) ?_
      rotate_left
      · intro w hSw; (try dsimp only at hSw); go_simp
        first | done | with_reducible rfl
      try simp only [Act.put, List.setIfInBounds_toArray, List.set_cons_zero, List.set_cons_succ]
      refine wpAnyN_takeD (some 75) (by rfl) (i := 3) (oi := _) (v := ?_) rfl (by kernel_rfl) (by kernel_rfl) (by kernel_rfl) (by kernel_rfl) (fun _ _ _ h => h) (Or.inl ⟨by rfl, ?_⟩) (by assumption) ?_
      rotate_left
      · intro w hSw; (try dsimp only at hSw); go_simp
        first | done | with_reducible rfl
      try simp only [Act.put, List.setIfInBounds_toArray, List.set_cons_zero, List.set_cons_succ]
      refine wpAnyN_takeD (some 76) (by rfl) (i := 4) (oi := _) (v := ?_) rfl (by kernel_rfl) (by kernel_rfl) (by kernel_rfl) (by kernel_rfl) (fun _ _ _ h => h) (Or.inl ⟨by rfl, ?_⟩) (by assumption) ?_
      rotate_left
      · intro w hSw; (try dsimp only at hSw); go_simp
        first | done | with_reducible rfl
      try simp only [Act.put, List.setIfInBounds_toArray, List.set_cons_zero, List.set_cons_succ]
      refine wpAnyN_takeD (some 77) (by rfl) (i := 5) (oi := _) (v := ?_) rfl (by kernel_rfl) (by kernel_rfl) (by kernel_rfl) (by kernel_rfl) (fun _ _ _ h => h) (Or.inl ⟨by rfl, ?_⟩) (by assumption) ?_
      rotate_left
      · intro w hSw; (try dsimp only at hSw); go_simp
        first | done | with_reducible rfl
      try simp only [Act.put, List.setIfInBounds_toArray, List.set_cons_zero, List.set_cons_succ]
      refine wpAnyN_takeD (some 78) (by rfl) (i := 6) (oi := _) (v := ?_) rfl (by kernel_rfl) (by kernel_rfl) (by kernel_rfl) (by kernel_rfl) (fun _ _ _ h => h) (Or.inl ⟨by rfl, ?_⟩) (by assumption) ?_
      rotate_left
      · intro w hSw; (try dsimp only at hSw); go_simp
        first | done | with_reducible rfl
      try simp only [Act.put, List.setIfInBounds_toArray, List.set_cons_zero, List.set_cons_succ]
      refine wpAnyN_ready (rs := [7]) (by kernel_rfl) (by simp) ?_
      refine AllReadyN.held rfl (by rfl) (fun K hK => ?_) AllReadyN.nil
      go_simp
      refine (qadd_calls _ _ _ zc zc 1000 1000 (OwnR.raw (OwnR.later O8.out (HL812.out.trans (Later.refl w12).drew)) HS.out) (OwnR.raw (OwnR.later O8.out (HL812.out.trans (Later.refl w12).drew)) HS.out) (by omega)).mono ?_
      rintro e w107 ⟨v13, rfl, o13, b7⟩
      obtain ⟨s13, P13, q13, e13, P13', q13', e13', rfl, o13⟩ := o13.open_; have O13 := hide o13; clear o13
      refine hK.out _ _ ?_ (fun hHeld => ?_)
      · exact HT1.out _ ((Later.refl w12.drew).trans b7)
      clear hK K
      try simp only [Act.put, List.setIfInBounds_toArray, List.set_cons_zero, List.set_cons_succ]
      refine wpAnyN_ready (rs := [8]) (by kernel_rfl) (by simp) ?_
      refine AllReadyN.held rfl (by rfl) (fun K hK => ?_) AllReadyN.nil
      go_simp
      refine (qsame_calls _ _ _ (zc + zc) (zc + zc) _ _ 1000 2001 (OwnR.later O10.out (HLB12.out.trans ((Later.refl w12).drew.trans ((Later.refl w12.drew).trans b7)))) O13.out HS2.out (HS.out.add HS.out) (by omega) (by omega) true (by simp)).mono ?_
      rintro e w108 ⟨rfl, b8⟩
      refine hK.out _ _ ?_ (fun hHeld => ?_)
      · exact HT1.out _ (((Later.refl w12.drew).trans b7).trans b8)
      clear hK K
      try simp only [Act.put, List.setIfInBounds_toArray, List.set_cons_zero, List.set_cons_succ]
      refine wpAnyN_takeD (some 81) (by rfl) (i := 9) (oi := _) (v := ?_) rfl (by kernel_rfl) (by kernel_rfl) (by kernel_rfl) (by kernel_rfl) (fun _ _ _ h => h) (Or.inl ⟨by rfl, ?_⟩) (by assumption) ?_
      rotate_left
      · intro w hSw; (try dsimp only at hSw); go_simp
        first | done | with_reducible rfl
      try simp only [Act.put, List.setIfInBounds_toArray, List.set_cons_zero, List.set_cons_succ]
      refine wpAnyN_takeD (some 82) (by rfl) (i := 10) (oi := _) (v := ?_) rfl (by kernel_rfl) (by kernel_rfl) (by kernel_rfl) (by kernel_rfl) (fun _ _ _ h => h) (Or.inl ⟨by rfl, ?_⟩) (by assumption) ?_
      rotate_left
      · intro w hSw; (try dsimp only at hSw); go_simp
        first | done | with_reducible rfl
      try simp only [Act.put, List.setIfInBounds_toArray, List.set_cons_zero, List.set_cons_succ]
      refine wpAnyN_takeD (some 83) (by rfl) (i := 11) (oi := _) (v := ?_) rfl (by kernel_rfl) (by kernel_rfl) (by kernel_rfl) (by kernel_rfl) (fun _ _ _ h => h) (Or.inl ⟨by rfl, ?_⟩) (by assumption) ?_
      rotate_left
      · intro w hSw; (try dsimp only at hSw); go_simp
        first | done | with_reducible rfl
      try simp only [Act.put, List.setIfInBounds_toArray, List.set_cons_zero, List.set_cons_succ]
      refine wpAnyN_takeD (some 84) (by rfl) (i := 12) (oi := _) (v := ?_) rfl (by kernel_rfl) (by kernel_rfl) (by kernel_rfl) (by kernel_rfl) (fun _ _ _ h => h) (Or.inl ⟨by rfl, ?_⟩) (by assumption) ?_
      rotate_left
      · intro w hSw; (try dsimp only at hSw); go_simp
        first | done | with_reducible rfl
      try simp only [Act.put, List.setIfInBounds_toArray, List.set_cons_zero, List.set_cons_succ]
      refine wpAnyN_takeD (some 86) (by rfl) (i := 14) (oi := _) (v := ?_) rfl (by kernel_rfl) (by kernel_rfl) (by kernel_rfl) (by kernel_rfl) (fun _ _ _ h => h) (Or.inl ⟨by rfl, ?_⟩) (by assumption) ?_
      rotate_left
      · intro w hSw; (try dsimp only at hSw); go_simp
        first | done | with_reducible rfl
      try simp only [Act.put, List.setIfInBounds_toArray, List.set_cons_zero, List.set_cons_succ]
      refine wpAnyN_takeD (some 87) (by rfl) (i := 15) (oi := _) (v := ?_) rfl (by kernel_rfl) (by kernel_rfl) (by kernel_rfl) (by kernel_rfl) (fun _ _ _ h => h) (Or.inl ⟨by rfl, ?_⟩) (by assumption) ?_
      rotate_left
      · intro w hSw; (try dsimp only at hSw); go_simp
        first | done | with_reducible rfl
      try simp only [Act.put, List.setIfInBounds_toArray, List.set_cons_zero, List.set_cons_succ]
      refine wpAnyN_ready (rs := [13]) (by kernel_rfl) (by simp) ?_
      refine AllReadyN.held rfl (by rfl) (fun K hK => ?_) AllReadyN.nil
      go_simp
      refine (plallowed_calls _ _ _ _ _ _ _ _ _ _ _ _ _ D (H.out.later (HL312.out.trans ((Later.refl w12).drew.trans (((Later.refl w12.drew).trans b7).trans b8)))) _ _ _ t (HQ.out.later (HL312.out.trans ((Later.refl w12).drew.trans (((Later.refl w12.drew).trans b7).trans b8)))) ua HUA.out).mono ?_
      rintro e w113 ⟨rfl, b13⟩
      refine hK.out _ _ ?_ (fun hHeld => ?_)
      · exact HT1.out _ ((((Later.refl w12.drew).trans b7).trans b8).trans b13)
      clear hK K
      try simp only [Act.put, List.setIfInBounds_toArray, List.set_cons_zero, List.set_cons_succ]
      refine wpAnyN_ready (rs := [16]) (by kernel_rfl) (by simp) ?_
      refine AllReadyN.held rfl (by rfl) (fun K hK => ?_) AllReadyN.nil
      go_simp
      refine (plallowed_calls _ _ _ _ _ _ _ _ _ _ _ _ _ (dbD D) (HB.out.later (HLB2.out.trans ((Later.refl w12).drew.trans ((((Later.refl w12.drew).trans b7).trans b8).trans b13)))) _ _ _ t (HQ.out.later (HL312.out.trans ((Later.refl w12).drew.trans ((((Later.refl w12.drew).trans b7).trans b8).trans b13)))) ua HUA2.out).mono ?_
      rintro e w116 ⟨rfl, b16⟩
      refine hK.out _ _ ?_ (fun hHeld => ?_)
      · exact HT1.out _ (((((Later.refl w12.drew).trans b7).trans b8).trans b13).trans b16)
      clear hK K
      try simp only [Act.put, List.setIfInBounds_toArray, List.set_cons_zero, List.set_cons_succ]
      refine wpAnyN_takeD (some 89) (by rfl) (i := 17) (oi := _) (v := ?_) rfl (by kernel_rfl) (by kernel_rfl) (by kernel_rfl) (by kernel_rfl) (fun _ _ _ h => h) (Or.inl ⟨by rfl, ?_⟩) (by assumption) ?_
      rotate_left
      · intro w hSw; (try dsimp only at hSw); go_simp
        first | done | with_reducible rfl
      try simp only [Act.put, List.setIfInBounds_toArray, List.set_cons_zero, List.set_cons_succ]
      refine wpAnyN_takeD (some 90) (by rfl) (i := 18) (oi := _) (v := ?_) rfl (by kernel_rfl) (by kernel_rfl) (by kernel_rfl) (by kernel_rfl) (fun _ _ _ h => h) (Or.inl ⟨by rfl, ?_⟩) (by assumption) ?_
      rotate_left
      · intro w hSw; (try dsimp only at hSw); go_simp
        first | done | with_reducible rfl
      try simp only [Act.put, List.setIfInBounds_toArray, List.set_cons_zero, List.set_cons_succ]
      refine wpAnyN_takeD (some 4) (by rfl) (i := 19) (oi := _) (v := ?_) rfl (by kernel_rfl) (by kernel_rfl) (by kernel_rfl) (by kernel_rfl) (fun _ _ _ h => h) (Or.inl ⟨by rfl, ?_⟩) (by assumption) ?_
      rotate_left
      · intro w hSw; (try dsimp only at hSw); go_simp
        first | done | with_reducible rfl
      try simp only [Act.put, List.setIfInBounds_toArray, List.set_cons_zero, List.set_cons_succ]
      refine wpAnyN_done (by kernel_rfl) ?_ _
      have HLL := hide (HLZ.out.trans ((Later.refl w12).drew.trans (((((Later.refl w12.drew).trans b7).trans b8).trans b13).trans b16)))
      clear hHeld
      go_wp2_with fail
      go_ret
      exact ⟨rfl, B0.out.trans HLL.out⟩
end Go.Proofs.YthncinngkfflgaaGreat

/- PlanDoubles returns true for every input, and each argument reads behind the call as it read before. No condition. -/
set_option linter.unusedVariables false
namespace Go.Proofs.YthncinngkfflgaaGreat
open Go.ChangeShapes Go.WideShapes Go.ChangeAt Go.RowKit

theorem plandoubles_own : ownKnob Tryz.prog.godebug = none := by kernel_rfl
theorem plandoubles_laid : laidOutB Tryz.prog = true := by kernel_rfl

set_option maxRecDepth 100000 in
theorem plandoubles_lifted (os : Os) (started : os.Started) (H : Type) (enc : TypeId × Value → H) :
    ReturnsInHanded {} Tryz.checked os 6 .any (Rows.planDoublesSpec.pre6 enc Tryz.prog Tryz.f6 Rows.planDoublesRow.domain false) (Rows.planDoublesSpec.post enc Tryz.prog Tryz.f6 false true false false) := by
  refine returnsInHanded_of_change_sized (C := Tryz.checked) plandoubles_own started (by kernel_rfl) Tryz.func6
    (ChangeSpec.witness6 (enc := enc) (C := Tryz.checked) false ⟨#[], #[.agg #[.slice none 0 0, .int .i64 0, .int .i64 0, .slice none 0 0, .slice none 0 0, .slice none 0 0], .slice none 0 0], []⟩ 8 (by kernel_rfl) (by kernel_rfl) (by kernel_rfl) (by kernel_rfl)) ?_
  intro W base args ds gs before hval0 hW hcnd hwt0 _
  have hval : ∀ (j : Nat) t v, Tryz.f6.params[j]? = some t → args[j]? = some v → Value.okWide Tryz.prog W .any base t v := hval0
  have hW' := hW
  obtain ⟨p, q, hA0, hV, rfl, hfz, hnd⟩ := hW
  have hA : DataW.TrodAll enc Tryz.prog W 0 (fun _ => true) true Tryz.f6.params.toList args.toList ds p := hA0
  have hwt : ∀ n ∈ DataW.weightsEach Tryz.prog (Tryz.f6.params.toList ++ Rows.planDoublesSpec.plain.varTypes Tryz.prog) (ds ++ gs), n ≤ reachBytes := fun n hn => by simpa using List.all_eq_true.1 hwt0 n hn
  rw [Tryz.params6] at hA hval hwt
  obtain ⟨v0, vs0, d0, ds0, p0, q0, hargs, rfl, rfl, h0, r0⟩ := trodAll_cons hA
  obtain ⟨v1, vs1, d1, ds1, p1, q1, rfl, rfl, rfl, h1, r1⟩ := trodAll_cons r0
  obtain ⟨rfl, rfl, rfl⟩ := trodAll_nil r1
  obtain rfl : args = #[v0, v1] := by cases args; simp_all
  obtain ⟨rfl, rfl⟩ := trodVars_none hV
  have k0 := h0
  have lt0 : ∀ x ∈ p0, x.block < W.heap.size := by obtain ⟨m, hm⟩ := k0; exact DataW.trod_lt m _ _ _ hm
  have ha0 := arg_book (hval 0 _ v0 rfl rfl) h0 (Wt.each hwt (j := 0) rfl rfl)
  have k1 := h1
  have lt1 : ∀ x ∈ p1, x.block < W.heap.size := by obtain ⟨m, hm⟩ := k1; exact DataW.trod_lt m _ _ _ hm
  have ha1 := arg_grid (hval 1 _ v1 rfl rfl) h1 (Wt.each hwt (j := 1) rfl rfl)
  clear hA0 hval0 hwt hwt0
  refine (plandoubles_walk W v0 v1 ha0 ha1).mono fun e W' ⟨he, bel⟩ => ?_
  subst he
  exact ⟨_, rfl, _, _, _, [], _, [], hW', trodAll_mk1 (shut_bool Tryz.underlying4 _), (trodAll_cons_mk (Below.trod plandoubles_laid (by kernel_rfl) (of_decide_eq_true (by kernel_rfl)) k0 bel lt0) (trodAll_cons_mk (Below.trod plandoubles_laid (by kernel_rfl) (of_decide_eq_true (by kernel_rfl)) k1 bel lt1) trodAll_mk0)), rfl, Below.frame bel _, fun h => by cases h⟩

/-- the statement -/
theorem plandoubles_holds : Rows.PlanDoublesSaid :=
  OpenClaim.holds_of_wide 6 Tryz.f6 rfl rfl rfl rfl rfl rfl rfl ⟨rfl, rfl, rfl, rfl, rfl⟩ rfl rfl rfl rfl rfl (by kernel_rfl) Tryz.func6 (by kernel_rfl)
    (of_decide_eq_true (by kernel_rfl)) (by unfold Func.isWrapper; first | (rw [if_pos (by decide +kernel)]; kernel_rfl) | (rw [if_neg (by decide +kernel)]; exact ⟨rfl, rfl⟩))
    (fun os started H enc _ => plandoubles_lifted os started H enc)
#print axioms plandoubles_holds
end Go.Proofs.YthncinngkfflgaaGreat
