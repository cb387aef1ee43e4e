/- Plans: which books and plans are gone through. -/
import Derived.Test.YtncbebfhakcgdaaGreatA18
import Derived.Test.YtncbebfhakcgdaaGreatA11
import Derived.SizedLaws
import Derived.Test.YtncbebfhakcgdaaGreatA13
set_option linter.unusedVariables false
set_option linter.unusedSimpArgs false
set_option maxRecDepth 100000
namespace Go.Proofs.YtncbebfhakcgdaaGreat
open Go.RowKit Go.Shelf
attribute [local go_sem ↓] Go.wp_at_zero Go.wp_at_succ
instance : Inhabited PItem := ⟨item0⟩
theorem Grid.len_ {w : World} {A : Option Addr} {n c : Nat} {t : List (List Int)} (h : Grid w (.slice A n c) t) : n = t.length := by
 obtain ⟨_, _, _, e, hn, -, -, -⟩ := h.form
 injection e with _ e _
 omega
def RetP (w : World) (p : Prop) (e : Ending) (w' : World) : Prop := ∃ u, e = .returned (.bool u) /\ Later w w' /\ (u = true -> p)
def ItemAt (E : World -> Value -> Rat -> Bool -> Prop) (w : World) (A : Option Addr) (i : Nat) (x : PItem) : Prop :=
 ∃ b off, A = some ⟨b, off, none⟩ /\ ∃ e1 e2 e3 : ICells, w.cell? ⟨b, off + i * 12, none⟩ = some (.bool e1.a) /\ w.cell? ⟨b, off + i * 12 + 1, none⟩ = some (.slice e1.A e1.n e1.c) /\ w.cell? ⟨b, off + i * 12 + 2, none⟩ = some (.bool e1.a') /\ w.cell? ⟨b, off + i * 12 + 3, none⟩ = some (.slice e1.A' e1.n' e1.c') /\ w.cell? ⟨b, off + i * 12 + 4, none⟩ = some (.bool e2.a) /\ w.cell? ⟨b, off + i * 12 + 5, none⟩ = some (.slice e2.A e2.n e2.c) /\ w.cell? ⟨b, off + i * 12 + 6, none⟩ = some (.bool e2.a') /\ w.cell? ⟨b, off + i * 12 + 7, none⟩ = some (.slice e2.A' e2.n' e2.c') /\ w.cell? ⟨b, off + i * 12 + 8, none⟩ = some (.bool e3.a) /\ w.cell? ⟨b, off + i * 12 + 9, none⟩ = some (.slice e3.A e3.n e3.c) /\ w.cell? ⟨b, off + i * 12 + 10, none⟩ = some (.bool e3.a') /\ w.cell? ⟨b, off + i * 12 + 11, none⟩ = some (.slice e3.A' e3.n' e3.c') /\ E w (.agg #[.bool e1.a, .slice e1.A e1.n e1.c, .bool e1.a', .slice e1.A' e1.n' e1.c']) x.s x.sf /\ E w (.agg #[.bool e2.a, .slice e2.A e2.n e2.c, .bool e2.a', .slice e2.A' e2.n' e2.c']) x.h x.hf /\ E w (.agg #[.bool e3.a, .slice e3.A e3.n e3.c, .bool e3.a', .slice e3.A' e3.n' e3.c']) x.b x.bf
def EAnyF : World -> Value -> Rat -> Bool -> Prop := fun w v q _ => ∃ s A n c s' A' n' c', v = .agg #[.bool s, .slice A n c, .bool s', .slice A' n' c'] /\ EAny w v q /\ n <= 35184372088832 /\ n' <= 35184372088832
theorem EAnyF.parts {w : World} {s s' : Bool} {A A' : Option Addr} {n c n' c' : Nat} {q : Rat} {f : Bool} (h : EAnyF w (.agg #[.bool s, .slice A n c, .bool s', .slice A' n' c']) q f) : EAny w (.agg #[.bool s, .slice A n c, .bool s', .slice A' n' c']) q /\ n <= 35184372088832 /\ n' <= 35184372088832 := by
 obtain ⟨s1, A1, n1, c1, s2, A2, n2, c2, e, h1, h2, h3⟩ := h
 injection e with e; injection e with e; injection e with e1 e; injection e with e2 e; injection e with e3 e; injection e with e4 e
 injection e2 with _ e2 _; injection e4 with _ e4 _
 exact ⟨h1, by omega, by omega⟩
def ItsAny (w : World) (A : Option Addr) (n c : Nat) : Prop := n <= c /\ c <= maxLen /\ ∀ i < n, ∃ x, ItemAt EAnyF w A i x
theorem enum_of {w : World} {v : Value} {q : Rat} {k : Nat} (h : RawR w v q k) (hk : k <= 1000) : ∃ f, ENum k w v q f := by
 obtain ⟨a, A, n, c, b, A', n', c', x, y, e, h1, h2, h3⟩ := id h
 refine ⟨decide (0 < y), h, a, A, n, c, b, A', n', c', y, e, RawI.mono h2 hk, ?_⟩
 by_cases hy : 0 < y <;> simp [hy]
set_option maxHeartbeats 8000000 in
theorem few17_calls (w : World) (A1 A2 A3 A4 : Option Addr) (n1 n2 n3 n4 c1 c2 c3 c4 : Nat) (hor now : Int) (caps : List Int) (ords : List POrd) (mks : List PMk) (hI : ItsAny w A1 n1 c1) (hC : Sq 1 iCells w (.slice A2 n2 c2) caps) (hO : Sq 4 oCells w (.slice A3 n3 c3) ords) (hM : Sq 3 mCells w (.slice A4 n4 c4) mks) (hh : IFit hor) (hn : IFit now) (fc : ∀ z ∈ caps, IFit z) (fo : ∀ o ∈ ords, o.fit) (fm : ∀ x ∈ mks, x.fit) :
 Calls Tryz.prog 10 #[.agg #[.slice A1 n1 c1, .int .i64 hor, .int .i64 now, .slice A2 n2 c2, .slice A3 n3 c3, .slice A4 n4 c4]] w (RetP w (∃ D : PBook, D.hor = hor /\ D.now = now /\ D.caps = caps /\ D.ords = ords /\ D.mks = mks /\ BookIn w (.slice A1 n1 c1) (.slice A2 n2 c2) (.slice A3 n3 c3) (.slice A4 n4 c4) D)) := by
 have HI := hide hI; have HC := hide hC; have HO := hide hO; have HM := hide hM
 have HFIT := hide (show IFit hor /\ IFit now /\ (∀ z ∈ caps, IFit z) /\ (∀ o ∈ ords, o.fit) /\ (∀ x ∈ mks, x.fit) from ⟨hh, hn, fc, fo, fm⟩)
 have L2 : Hid (n2 = caps.length) := hide hC.len_
 have L3 : Hid (n3 = ords.length) := hide hO.len_
 have L4 : Hid (n4 = mks.length) := hide hM.len_
 clear hI hC hO hM hh hn fc fo fm
 obtain ⟨W0, hW0⟩ : ∃ W0, W0 = (w.alloc (Obj.cells #[Value.slice A1 n1 c1, Value.int .i64 hor, Value.int .i64 now, Value.slice A2 n2 c2, Value.slice A3 n3 c3, Value.slice A4 n4 c4] 27)) := ⟨_, rfl⟩
 obtain ⟨hb0, r0, hsz0⟩ := boxes1 w [.slice A1 n1 c1, .int .i64 hor, .int .i64 now, .slice A2 n2 c2, .slice A3 n3 c3, .slice A4 n4 c4] 27 hW0
 have B0 := hide hb0; have HW0 := hide hW0
 have R0 := hide r0
 clear hb0 hW0 hsz0 r0
 go_enter Tryz.func10, Tryz.ntmps10
 go_upto_region 1 with fail
 rw [<- HW0.out]
 have r_d := R0.out.later (Later.refl W0)
 have d0 := r_d.cell (i := 0) rfl; have d1 := r_d.cell (i := 1) rfl; have d2 := r_d.cell (i := 2) rfl; have d3 := r_d.cell (i := 3) rfl; have d4 := r_d.cell (i := 4) rfl; have d5 := r_d.cell (i := 5) rfl
 clear r_d
 go_wp2_with fail
 clear d0 d1 d2 d3 d4 d5
 go_loopw [3] (fun iv wr => ∃ j : Nat, j <= n1 /\ j <= 10 /\ iv = .int .i64 (j : Int) /\ Hid (∀ i < j, ∃ x, ItemAt (ENum 12) w A1 i x) /\ Later W0 wr) (fun iv _ => (10 - intOf iv).toNat)
 case atStart => exact ⟨0, by omega, by omega, rfl, hide fun i hi => by omega, Later.refl _⟩
 case round =>
  obtain ⟨j, hj, hj10, rfl, hpre, hL⟩ := hrel
  have HL := hide hL
  clear hL
  have r_d := R0.out.later HL.out
  have d0 := r_d.cell (i := 0) rfl; have d1 := r_d.cell (i := 1) rfl; have d2 := r_d.cell (i := 2) rfl; have d3 := r_d.cell (i := 3) rfl; have d4 := r_d.cell (i := 4) rfl; have d5 := r_d.cell (i := 5) rfl
  clear r_d
  by_cases hjn : j < n1 /\ j < 10
  ·obtain ⟨hj1', hj2'⟩ := hjn
   obtain ⟨x, b1, off1, rfl, e1, e2, e3, x0, x1, x2, x3, x4, x5, x6, x7, x8, x9, x10, x11, m1, m2, m3⟩ := HI.out.2.2 j hj1'
   obtain ⟨m1, l1⟩ := m1.parts
   obtain ⟨m2, l2⟩ := m2.parts
   obtain ⟨m3, l3⟩ := m3.parts
   have HXS := hide (show w.cell? ⟨b1, off1 + j * 12, none⟩ = some (.bool e1.a) /\ w.cell? ⟨b1, off1 + j * 12 + 1, none⟩ = some (.slice e1.A e1.n e1.c) /\ w.cell? ⟨b1, off1 + j * 12 + 2, none⟩ = some (.bool e1.a') /\ w.cell? ⟨b1, off1 + j * 12 + 3, none⟩ = some (.slice e1.A' e1.n' e1.c') /\ w.cell? ⟨b1, off1 + j * 12 + 4, none⟩ = some (.bool e2.a) /\ w.cell? ⟨b1, off1 + j * 12 + 5, none⟩ = some (.slice e2.A e2.n e2.c) /\ w.cell? ⟨b1, off1 + j * 12 + 6, none⟩ = some (.bool e2.a') /\ w.cell? ⟨b1, off1 + j * 12 + 7, none⟩ = some (.slice e2.A' e2.n' e2.c') /\ w.cell? ⟨b1, off1 + j * 12 + 8, none⟩ = some (.bool e3.a) /\ w.cell? ⟨b1, off1 + j * 12 + 9, none⟩ = some (.slice e3.A e3.n e3.c) /\ w.cell? ⟨b1, off1 + j * 12 + 10, none⟩ = some (.bool e3.a') /\ w.cell? ⟨b1, off1 + j * 12 + 11, none⟩ = some (.slice e3.A' e3.n' e3.c') from ⟨x0, x1, x2, x3, x4, x5, x6, x7, x8, x9, x10, x11⟩)
   have M1 := hide m1; have M2 := hide m2; have M3 := hide m3
   have HLW := hide (B0.out.trans HL.out)
   have x0 := Later.cell HLW.out x0; have x1 := Later.cell HLW.out x1; have x2 := Later.cell HLW.out x2; have x3 := Later.cell HLW.out x3; have x4 := Later.cell HLW.out x4; have x5 := Later.cell HLW.out x5; have x6 := Later.cell HLW.out x6; have x7 := Later.cell HLW.out x7; have x8 := Later.cell HLW.out x8; have x9 := Later.cell HLW.out x9; have x10 := Later.cell HLW.out x10; have x11 := Later.cell HLW.out x11
   have hj0 : (0 : Int) <= (j : Int) := by omega
   have hj1 : (j : Int) < n1 := by omega
   have hj2 : (j : Int) < 10 := by omega
   have hw0 : IntKind.i64.wrap ((e1.n : Int) + (e1.n' : Int)) = (e1.n : Int) + (e1.n' : Int) := IntWalk.i64_in _ (by omega)
   have hw1 : IntKind.i64.wrap ((e1.n : Int) + (e1.n' : Int) + (e2.n : Int)) = (e1.n : Int) + (e1.n' : Int) + (e2.n : Int) := IntWalk.i64_in _ (by omega)
   have hw2 : IntKind.i64.wrap ((e1.n : Int) + (e1.n' : Int) + (e2.n : Int) + (e2.n' : Int)) = (e1.n : Int) + (e1.n' : Int) + (e2.n : Int) + (e2.n' : Int) := IntWalk.i64_in _ (by omega)
   have hw3 : IntKind.i64.wrap ((e1.n : Int) + (e1.n' : Int) + (e2.n : Int) + (e2.n' : Int) + (e3.n : Int)) = (e1.n : Int) + (e1.n' : Int) + (e2.n : Int) + (e2.n' : Int) + (e3.n : Int) := IntWalk.i64_in _ (by omega)
   have hw4 : IntKind.i64.wrap ((e1.n : Int) + (e1.n' : Int) + (e2.n : Int) + (e2.n' : Int) + (e3.n : Int) + (e3.n' : Int)) = (e1.n : Int) + (e1.n' : Int) + (e2.n : Int) + (e2.n' : Int) + (e3.n : Int) + (e3.n' : Int) := IntWalk.i64_in _ (by omega)
   clear m1 m2 m3
   by_cases g : (12 : Int) < (e1.n : Int) + (e1.n' : Int) + (e2.n : Int) + (e2.n' : Int) + (e3.n : Int) + (e3.n' : Int)
   ·have t1 : decide ((12 : Int) < (e1.n : Int) + (e1.n' : Int) + (e2.n : Int) + (e2.n' : Int) + (e3.n : Int) + (e3.n' : Int)) = true := by simpa using g
    clear hpre
    go_wp2_with fail
    go_ret
    exact ⟨false, rfl, (B0.out.trans (HL.out.alloc _)), fun h => by cases h⟩
   ·have t1 : decide ((12 : Int) < (e1.n : Int) + (e1.n' : Int) + (e2.n : Int) + (e2.n' : Int) + (e3.n : Int) + (e3.n' : Int)) = false := by simpa using g
    have HN : Hid (∀ i < j + 1, ∃ x, ItemAt (ENum 12) w (some ⟨b1, off1, none⟩) i x) := hide (fun i hi => by
     by_cases hij : i < j
     ·exact hpre.out i hij
     ·obtain rfl : i = j := by omega
      have g' : e1.n + e1.n' + e2.n + e2.n' + e3.n + e3.n' <= 12 := by omega
      obtain ⟨f1, k1⟩ := enum_of (rawR_small (m := 12) M1.out (by omega) (by omega)) (by omega)
      obtain ⟨f2, k2⟩ := enum_of (rawR_small (m := 12) M2.out (by omega) (by omega)) (by omega)
      obtain ⟨f3, k3⟩ := enum_of (rawR_small (m := 12) M3.out (by omega) (by omega)) (by omega)
      obtain ⟨x0, x1, x2, x3, x4, x5, x6, x7, x8, x9, x10, x11⟩ := HXS.out
      exact ⟨⟨x.s, x.h, x.b, f1, f2, f3⟩, b1, off1, rfl, e1, e2, e3, x0, x1, x2, x3, x4, x5, x6, x7, x8, x9, x10, x11, k1, k2, k3⟩)
    clear g
    go_wp2_with fail
    exact ⟨⟨j+1, by omega, by omega, by go_num, HN, HL.out.alloc _⟩, by simp [intOf]; omega⟩
  ·have HEND : Hid (n1 < 10 -> ∀ i < n1, ∃ x, ItemAt (ENum 12) w A1 i x) := hide (fun h i hi => hpre.out i (by omega))
   clear hpre
   have HFIN : Hid (n1 < 10 -> n2 < 100 -> n3 < 100 -> n4 < 200 -> ∃ D : PBook, D.hor = hor /\ D.now = now /\ D.caps = caps /\ D.ords = ords /\ D.mks = mks /\ BookIn w (.slice A1 n1 c1) (.slice A2 n2 c2) (.slice A3 n3 c3) (.slice A4 n4 c4) D) := hide (fun h1 h2 h3 h4 => by
    obtain ⟨Q, hQ⟩ := Go.Deep.choose_lt (α := PItem) (HEND.out h1)
    refine ⟨⟨(List.range n1).map Q, hor, now, caps, ords, mks⟩, rfl, rfl, rfl, rfl, rfl, ⟨?_, HC.out, HO.out, HM.out, by simp; omega, by show caps.length <= 1000; have := L2.out; omega, by show ords.length <= 1000; have := L3.out; omega, by show mks.length <= 1000; have := L4.out; omega, HFIT.out.1, HFIT.out.2.1, HFIT.out.2.2.1, HFIT.out.2.2.2.1, HFIT.out.2.2.2.2⟩⟩
    refine ⟨A1, c1, by simp, by simpa using HI.out.1, HI.out.2.1, fun i x hi => ?_⟩
    have hin : i < n1 := by
     have := (List.getElem?_eq_some_iff.1 hi).1
     simpa using this
    obtain ⟨b, off, ha, e1, e2, e3, x0, x1, x2, x3, x4, x5, x6, x7, x8, x9, x10, x11, k1, k2, k3⟩ := hQ i hin
    simp [hin] at hi
    subst hi
    refine ⟨b, off, ha, e1, e2, e3, fun j u hj => ?_, k1, k2, k3⟩
    match j, hj with
    | 0, hj => simp [ICells.cells] at hj; subst hj; exact x0
    | 1, hj => simp [ICells.cells] at hj; subst hj; exact x1
    | 2, hj => simp [ICells.cells] at hj; subst hj; exact x2
    | 3, hj => simp [ICells.cells] at hj; subst hj; exact x3
    | 4, hj => simp [ICells.cells] at hj; subst hj; exact x4
    | 5, hj => simp [ICells.cells] at hj; subst hj; exact x5
    | 6, hj => simp [ICells.cells] at hj; subst hj; exact x6
    | 7, hj => simp [ICells.cells] at hj; subst hj; exact x7
    | 8, hj => simp [ICells.cells] at hj; subst hj; exact x8
    | 9, hj => simp [ICells.cells] at hj; subst hj; exact x9
    | 10, hj => simp [ICells.cells] at hj; subst hj; exact x10
    | 11, hj => simp [ICells.cells] at hj; subst hj; exact x11
    | k + 12, hj => simp [ICells.cells] at hj)
   have hb1 : decide ((j : Int) < n1 /\ (j : Int) < 10) = false := by rw [decide_eq_false_iff_not]; omega
   by_cases g0 : (j : Int) < n1
   ·have g5 : ¬ (j : Int) < 10 := by omega
    have g1 : ¬ (n1 : Int) < 10 := by omega
    go_wp2_with fail
    go_ret
    exact ⟨false, rfl, B0.out.trans HL.out, fun h => by cases h⟩
   ·
    by_cases g1 : (n1 : Int) < 10
    ·by_cases g2 : (n2 : Int) < 100
     ·by_cases g3 : (n3 : Int) < 100
      ·by_cases g4 : (n4 : Int) < 200
       ·have HOK := hide (HFIN.out (by omega) (by omega) (by omega) (by omega))
        go_wp2_with fail
        go_ret
        exact ⟨true, rfl, B0.out.trans HL.out, fun _ => HOK.out⟩
       ·go_wp2_with fail
        go_ret
        exact ⟨false, rfl, B0.out.trans HL.out, fun h => by cases h⟩
      ·go_wp2_with fail
       go_ret
       exact ⟨false, rfl, B0.out.trans HL.out, fun h => by cases h⟩
     ·go_wp2_with fail
      go_ret
      exact ⟨false, rfl, B0.out.trans HL.out, fun h => by cases h⟩
    ·go_wp2_with fail
     go_ret
     exact ⟨false, rfl, B0.out.trans HL.out, fun h => by cases h⟩
end Go.Proofs.YtncbebfhakcgdaaGreat
namespace Go.Proofs.YtncbebfhakcgdaaGreat
open Go.RowKit Go.Shelf
attribute [local go_sem ↓] Go.wp_at_zero Go.wp_at_succ
def D0 : PBook := ⟨[⟨5, 1, 2, true, true, true⟩], 2, 0, [4, 4], [⟨1, 0, 1, 3⟩], []⟩
theorem enum_own {w : World} {v : Value} {q : Rat} {B : Nat} (h : OwnR w B v q) (hs : Sized q 1) : ENum 12 w v q true :=
 ⟨RawR.mono (OwnR.raw h hs) (by omega), by simpa using EFlag.of_own h (hs.mono (by omega))⟩
end Go.Proofs.YtncbebfhakcgdaaGreat
namespace Go.Proofs.YtncbebfhakcgdaaGreat
open Go.RowKit Go.Shelf
attribute [local go_sem ↓] Go.wp_at_zero Go.wp_at_succ
theorem EAnyF.later {w w' : World} {v : Value} {q : Rat} {f : Bool} (h : EAnyF w v q f) (hb : Later w w') : EAnyF w' v q f := by
 obtain ⟨s, A, n, c, s', A', n', c', e, h1, h2⟩ := h; exact ⟨s, A, n, c, s', A', n', c', e, EAny.later _ _ _ _ h1 hb, h2⟩
theorem ItsAny.later {w w' : World} {A : Option Addr} {n c : Nat} (h : ItsAny w A n c) (hb : Later w w') : ItsAny w' A n c := by
 refine ⟨h.1, h.2.1, fun i hi => ?_⟩
 obtain ⟨x, b, off, ha, e1, e2, e3, x0, x1, x2, x3, x4, x5, x6, x7, x8, x9, x10, x11, m1, m2, m3⟩ := h.2.2 i hi
 exact ⟨x, b, off, ha, e1, e2, e3, Later.cell hb x0, Later.cell hb x1, Later.cell hb x2, Later.cell hb x3, Later.cell hb x4, Later.cell hb x5, Later.cell hb x6, Later.cell hb x7, Later.cell hb x8, Later.cell hb x9, Later.cell hb x10, Later.cell hb x11, m1.later hb, m2.later hb, m3.later hb⟩
def ArgBook (w : World) (v : Value) : Prop := ∃ A1 A2 A3 A4 n1 n2 n3 n4 c1 c2 c3 c4 hor now caps ords mks, v = .agg #[.slice A1 n1 c1, .int .i64 hor, .int .i64 now, .slice A2 n2 c2, .slice A3 n3 c3, .slice A4 n4 c4] /\ ItsAny w A1 n1 c1 /\ Sq 1 iCells w (.slice A2 n2 c2) caps /\ Sq 4 oCells w (.slice A3 n3 c3) ords /\ Sq 3 mCells w (.slice A4 n4 c4) mks /\
 (IFit hor /\ IFit now /\ (∀ z ∈ caps, IFit z) /\ (∀ o ∈ ords, o.fit) /\ (∀ x ∈ mks, x.fit))
end Go.Proofs.YtncbebfhakcgdaaGreat
namespace Go.Proofs.YtncbebfhakcgdaaGreat
open Go.RowKit Go.Shelf Go.ChangeShapes Go.WideShapes Go.Deep
section
variable {H : Type} {enc : TypeId × Value -> H} {w : World} {base : Nat} {spare : Nat -> Bool} {held : Bool}
def Wt (P : Program) (t : TypeId) (d : DataW H) : Prop := ∀ n ∈ d.weights P t, n <= reachBytes
theorem Wt.all {P : Program} {e : TypeId} {l : List (DataW H)} (h : ∀ n ∈ DataW.weightsAll P e l, n <= reachBytes) {d : DataW H} (hd : d ∈ l) : Wt P e d := by
 induction l with
 | nil => cases hd
 | cons a l ih =>
   intro n hn
   rcases List.mem_cons.1 hd with rfl | hd
   ·exact h n (by simp only [DataW.weightsAll, List.mem_append]; exact .inl hn)
   ·exact ih (fun m hm => h m (by simp only [DataW.weightsAll, List.mem_append]; exact .inr hm)) hd n hn
theorem Wt.each {P : Program} {ts : List TypeId} {ds : List (DataW H)} (h : ∀ n ∈ DataW.weightsEach P ts ds, n <= reachBytes) {j : Nat} {t : TypeId} {d : DataW H} (ht : ts[j]? = some t) (hd : ds[j]? = some d) : Wt P t d :=
 fun n hn => h n (DataW.weights_mem_each ht hd n hn)
theorem Wt.struct {P : Program} {t : TypeId} {fs : Array Field} {ds : List (DataW H)} (hu : P.underlying t = some (.struct fs)) (h : Wt P t (.agg ds)) {j : Nat} {t' : TypeId} {d : DataW H} (ht : (fs.toList.map (·.type))[j]? = some t') (hd : ds[j]? = some d) : Wt P t' d := by
 unfold Wt at h
 simp only [DataW.weights, hu] at h
 exact Wt.each h ht hd
theorem Wt.slice {P : Program} {t e : TypeId} {es sp : List (DataW H)} (hu : P.underlying t = some (.slice e)) (h : Wt P t (.slice es sp)) : (es.length + sp.length) * P.bytesOf e <= reachBytes /\ ∀ d ∈ es, Wt P e d := by
 unfold Wt at h
 simp only [DataW.weights, hu] at h
 refine ⟨h _ (List.mem_cons_self ..), fun d hd => Wt.all (fun n hn => h n (List.mem_cons_of_mem _ (List.mem_append.2 (.inl hn)))) hd⟩
theorem reach_val : reachBytes < 140737488355328 := by decide
theorem bytesU32 : Tryz.prog.bytesOf 160 = 4 := by kernel_rfl
theorem cellsItem : Tryz.prog.cellsOf 69 = 12 := by kernel_rfl
theorem cellsOrder : Tryz.prog.cellsOf 29 = 4 := by kernel_rfl
theorem cellsMake : Tryz.prog.cellsOf 43 = 3 := by kernel_rfl
theorem cellsBook : Tryz.prog.cellsOf 27 = 6 := by kernel_rfl
theorem cellsItems : Tryz.prog.cellsOf 22 = 1 := by kernel_rfl
theorem cellsOrders : Tryz.prog.cellsOf 24 = 1 := by kernel_rfl
theorem cellsMakes : Tryz.prog.cellsOf 25 = 1 := by kernel_rfl
theorem cellsII : Tryz.prog.cellsOf 3 = 1 := by kernel_rfl
theorem cellsIIs : Tryz.prog.cellsOf 23 = 1 := by kernel_rfl
theorem u32s_len {fuel : Nat} {cs : List Value} {y : DataW H × List MemPlace} (h : DataW.trod enc Tryz.prog w base spare held fuel 63 cs = some y) (hw : Wt Tryz.prog 63 y.1) {A : Option Addr} {n c : Nat} (e : cs = [.slice A n c]) : n <= 35184372088832 := by
 rcases open_ints Tryz.underlying63 Tryz.underlying160 cellsU32 h with ⟨rfl, -⟩ | ⟨a, n', c', zs, rfl, -, hl, hm, hz, rfl, hcell, hwf⟩
 ·simp at e; omega
 ·have h1 := (Wt.slice Tryz.underlying63 hw).1
  rw [bytesU32] at h1
  simp only [lits, List.length_map, List.length_take, List.length_drop] at h1
  simp at e
  have := reach_val
  have hnz : n' <= zs.length := by rw [hz]; split <;> omega
  omega
theorem int_len {fuel : Nat} {cs : List Value} {y : DataW H × List MemPlace} (h : DataW.trod enc Tryz.prog w base spare held fuel 65 cs = some y) (hw : Wt Tryz.prog 65 y.1) {s : Bool} {A : Option Addr} {n c : Nat} (e : cs = [.bool s, .slice A n c]) : n <= 35184372088832 := by
 obtain ⟨y0, y1, m, rfl, hlen, h0, h1⟩ := trod_struct2 Tryz.underlying65 h
 subst e
 simp only [cellsBool, cellsU32s, List.drop_zero, List.drop_succ_cons, List.take_succ_cons, List.take_zero] at h0 h1
 exact u32s_len h1 (Wt.struct (j := 1) Tryz.underlying65 hw rfl rfl) rfl
theorem rat_len {fuel : Nat} {cs : List Value} {y : DataW H × List MemPlace} (h : DataW.trod enc Tryz.prog w base spare held fuel 67 cs = some y) (hw : Wt Tryz.prog 67 y.1) {s s' : Bool} {A A' : Option Addr} {n c n' c' : Nat} (e : cs = [.bool s, .slice A n c, .bool s', .slice A' n' c']) : n <= 35184372088832 /\ n' <= 35184372088832 := by
 obtain ⟨y0, y1, m, rfl, hlen, h0, h1⟩ := trod_struct2 Tryz.underlying67 h
 subst e
 simp only [cellsInt, List.drop_zero, List.drop_succ_cons, List.take_succ_cons, List.take_zero] at h0 h1
 exact ⟨int_len h0 (Wt.struct (j := 0) Tryz.underlying67 hw rfl rfl) rfl, int_len h1 (Wt.struct (j := 1) Tryz.underlying67 hw rfl rfl) rfl⟩
theorem item_open {fuel : Nat} {cs : List Value} {y : DataW H × List MemPlace} (h : DataW.trod enc Tryz.prog w base spare held fuel 69 cs = some y) (hw : Wt Tryz.prog 69 y.1) :
 ∃ e1 e2 e3 : ICells, ∃ x : PItem, cs = e1.cells ++ e2.cells ++ e3.cells /\ EAnyF w (.agg #[.bool e1.a, .slice e1.A e1.n e1.c, .bool e1.a', .slice e1.A' e1.n' e1.c']) x.s x.sf /\ EAnyF w (.agg #[.bool e2.a, .slice e2.A e2.n e2.c, .bool e2.a', .slice e2.A' e2.n' e2.c']) x.h x.hf /\ EAnyF w (.agg #[.bool e3.a, .slice e3.A e3.n e3.c, .bool e3.a', .slice e3.A' e3.n' e3.c']) x.b x.bf := by
 obtain ⟨xs, m, -, rfl, hlen, hxl, hx⟩ := DataW.trod_struct Tryz.underlying69 h
 have h0 := hx 0 _ rfl; have h1 := hx 1 _ rfl; have h2 := hx 2 _ rfl
 rw [cellsItem] at hlen
 match cs, hlen, xs, hxl with
 | [c0, c1, c2, c3, c4, c5, c6, c7, c8, c9, c10, c11], _, [y0, y1, y2], _ =>
   simp only [List.getElem_toArray, List.getElem_cons_zero, List.getElem_cons_succ, List.getElem?_cons_zero, List.getElem?_cons_succ, cellsRat, List.drop_zero, List.drop_succ_cons, List.take_succ_cons, List.take_zero] at h0 h1 h2
   obtain ⟨s0, A0, n0, d0, s0', A0', n0', d0', q0, e0, g0⟩ := rat_open h0
   obtain ⟨s1, A1, n1, d1, s1', A1', n1', d1', q1, e1, g1⟩ := rat_open h1
   obtain ⟨s2, A2, n2, d2, s2', A2', n2', d2', q2, e2, g2⟩ := rat_open h2
   have l0 := rat_len h0 (Wt.struct (j := 0) Tryz.underlying69 hw rfl rfl) e0
   have l1 := rat_len h1 (Wt.struct (j := 1) Tryz.underlying69 hw rfl rfl) e1
   have l2 := rat_len h2 (Wt.struct (j := 2) Tryz.underlying69 hw rfl rfl) e2
   simp at e0 e1 e2
   obtain ⟨rfl, rfl, rfl, rfl⟩ := e0
   obtain ⟨rfl, rfl, rfl, rfl⟩ := e1
   obtain ⟨rfl, rfl, rfl, rfl⟩ := e2
   exact ⟨⟨s0, A0, n0, d0, s0', A0', n0', d0'⟩, ⟨s1, A1, n1, d1, s1', A1', n1', d1'⟩, ⟨s2, A2, n2, d2, s2', A2', n2', d2'⟩, ⟨q0, q1, q2, true, true, true⟩, rfl, ⟨_, _, _, _, _, _, _, _, rfl, g0, l0⟩, ⟨_, _, _, _, _, _, _, _, rfl, g1, l1⟩, ⟨_, _, _, _, _, _, _, _, rfl, g2, l2⟩⟩
theorem items_open {fuel : Nat} {cs : List Value} {y : DataW H × List MemPlace} (h : DataW.trod enc Tryz.prog w base spare held fuel 22 cs = some y) (hw : Wt Tryz.prog 22 y.1) :
 ∃ A n c, cs = [.slice A n c] /\ ItsAny w A n c := by
 rcases open_slice Tryz.underlying22 h with ⟨rfl, -⟩ | ⟨a, n, c, m, f, D, Pl, rfl, -, hl, hm, hmm, rfl, hx⟩
 ·exact ⟨_, _, _, rfl, Nat.le_refl _, by decide, fun i hi => by omega⟩
 ·have hnm : n <= m := by rw [hmm]; split <;> omega
  have hwt := (Wt.slice Tryz.underlying22 hw).2
  rcases Nat.eq_zero_or_pos n with rfl | hpos
  ·exact ⟨_, _, _, rfl, hl, hm, fun i hi => by omega⟩
  obtain ⟨b0, off0, spot⟩ := a
  obtain rfl : spot = none := by
   obtain ⟨cs, h1, h2⟩ := hx 0 (by omega)
   obtain ⟨e1, e2, e3, x, rfl, -⟩ := item_open h2 (hwt _ (List.mem_map.2 ⟨0, List.mem_range.2 hpos, rfl⟩))
   rw [cellsItem] at h1
   obtain ⟨-, -, h3⟩ := World.cells?_some h1
   have := World.cell?_spot (h3 0 (by omega))
   simpa [Addr.add] using this
  refine ⟨_, _, _, rfl, hl, hm, fun i hi => ?_⟩
  obtain ⟨cs, h1, h2⟩ := hx i (by omega)
  obtain ⟨e1, e2, e3, x, rfl, g1, g2, g3⟩ := item_open h2 (hwt _ (List.mem_map.2 ⟨i, List.mem_range.2 hi, rfl⟩))
  rw [cellsItem] at h1
  obtain ⟨-, -, h3⟩ := World.cells?_some h1
  have h4 : ∀ j (hj : j < 12), w.cell? ⟨b0, off0 + i * 12 + j, none⟩ = some ((e1.cells ++ e2.cells ++ e3.cells)[j]'(by simp [ICells.cells]; omega)) := fun j hj => by
   have h5 := h3 j hj
   simp only [add_plain] at h5
   rw [h5, List.getElem?_eq_getElem]
  exact ⟨x, b0, off0, rfl, e1, e2, e3, h4 0 (by omega), h4 1 (by omega), h4 2 (by omega), h4 3 (by omega), h4 4 (by omega), h4 5 (by omega), h4 6 (by omega), h4 7 (by omega), h4 8 (by omega), h4 9 (by omega), h4 10 (by omega), h4 11 (by omega), g1, g2, g3⟩
theorem wf_fit {z : Int} (h : (Lit.int .i64 z).wf = true) : IFit z := by
 have h3 : -9223372036854775808 <= z /\ z <= 9223372036854775807 := by simpa [Lit.wf, IntKind.min, IntKind.max, IntKind.bits, IntKind.signed] using h
 unfold IFit; omega
theorem is_open {fuel : Nat} {cs : List Value} {y : DataW H × List MemPlace} (h : DataW.trod enc Tryz.prog w base spare held fuel 23 cs = some y) :
 ∃ A n c l, cs = [.slice A n c] /\ Sq 1 iCells w (.slice A n c) l /\ ∀ z ∈ l, IFit z := by
 rcases open_ints Tryz.underlying23 Tryz.underlying3 cellsII h with ⟨rfl, -⟩ | ⟨a, n, c, zs, rfl, -, hl, hm, hz, -, hcell, hwf⟩
 ·exact ⟨_, _, _, [], rfl, Sq.nil _ _ _, by simp⟩
 ·have hzl : n <= zs.length := by rw [hz]; split <;> omega
  refine ⟨_, _, _, zs.take n, rfl, ?_, fun z hz => wf_fit (hwf z (List.mem_of_mem_take hz))⟩
  refine ⟨some a, c, by simp [hzl], by simp; omega, hm, fun i x hi => ?_⟩
  have hin : i < n := by have := (List.getElem?_eq_some_iff.1 hi).1; simp at this; omega
  obtain ⟨b, off, spot⟩ := a
  have hs : spot = none := by simpa [Addr.add] using World.cell?_spot (hcell 0 (by omega))
  subst hs
  have h0 := hcell i (by omega)
  refine ⟨b, off, rfl, fun j u hj => ?_⟩
  have hj0 : j = 0 := by have := (List.getElem?_eq_some_iff.1 hj).1; simp [iCells] at this; omega
  subst hj0
  simp [iCells] at hj
  subst hj
  rw [add_plain] at h0
  rw [Nat.mul_one, Nat.add_zero, h0]
  rw [List.getElem?_take_of_lt hin] at hi
  rw [List.getD_eq_getElem?_getD, hi]; rfl
theorem recs_open {α : Type} [Inhabited α] {t e : TypeId} {m : Nat} {en : α -> List Value} {ok : α -> Prop} (ht : Tryz.prog.underlying t = some (.slice e)) (hc : Tryz.prog.cellsOf e = m) (hm0 : 0 < m) (hlen : ∀ x, (en x).length = m)
 (hopen : ∀ {fuel : Nat} {cs : List Value} {y : DataW H × List MemPlace}, DataW.trod enc Tryz.prog w base spare held fuel e cs = some y -> ∃ x, cs = en x /\ ok x)
 {fuel : Nat} {cs : List Value} {y : DataW H × List MemPlace} (h : DataW.trod enc Tryz.prog w base spare held fuel t cs = some y) :
 ∃ A n c l, cs = [.slice A n c] /\ Sq m en w (.slice A n c) l /\ ∀ x ∈ l, ok x := by
 rcases open_slice ht h with ⟨rfl, -⟩ | ⟨a, n, c, k, f, D, Pl, rfl, -, hl, hm, hmm, -, hx⟩
 ·exact ⟨_, _, _, [], rfl, Sq.nil _ _ _, by simp⟩
 ·have hnm : n <= k := by rw [hmm]; split <;> omega
  rw [hc] at hx
  rcases Nat.eq_zero_or_pos n with rfl | hpos
  ·exact ⟨_, _, _, [], rfl, ⟨some a, c, rfl, by simp, hm, fun i q hi => by simp at hi⟩, by simp⟩
  obtain ⟨b0, off0, spot⟩ := a
  obtain rfl : spot = none := by
   obtain ⟨cs, h1, h2⟩ := hx 0 (by omega)
   obtain ⟨x, rfl, -⟩ := hopen h2
   obtain ⟨-, -, h3⟩ := World.cells?_some h1
   have h5 := h3 0 hm0
   rw [List.getElem?_eq_getElem (by rw [hlen]; exact hm0)] at h5
   have := World.cell?_spot h5
   simpa [Addr.add] using this
  have key : ∀ i, i < n -> ∃ x : α, ok x /\ ∀ (j : Nat) u, (en x)[j]? = some u -> w.cell? ⟨b0, off0 + i * m + j, none⟩ = some u := fun i hi => by
   obtain ⟨cs, h1, h2⟩ := hx i (by omega)
   obtain ⟨x, rfl, hok⟩ := hopen h2
   obtain ⟨-, -, h3⟩ := World.cells?_some h1
   refine ⟨x, hok, fun j u hj => ?_⟩
   have hjm := (List.getElem?_eq_some_iff.1 hj).1
   rw [hlen] at hjm
   have h5 := h3 j hjm
   simp only [add_plain] at h5
   rw [h5, hj]
  obtain ⟨Q, hQ⟩ := choose_lt (α := α) key
  refine ⟨_, _, _, (List.range n).map Q, rfl, ⟨some ⟨b0, off0, none⟩, c, by simp, by simpa using hl, hm, fun i q hi => ?_⟩, fun x hx => ?_⟩
  ·have hin : i < n := by
    have := (List.getElem?_eq_some_iff.1 hi).1
    simpa using this
   simp [hin] at hi
   subst hi
   exact ⟨b0, off0, rfl, (hQ i hin).2⟩
  ·obtain ⟨i, hi, rfl⟩ := List.mem_map.1 hx
   exact (hQ i (List.mem_range.1 hi)).1
instance : Inhabited POrd := ⟨⟨0, 0, 0, 0⟩⟩
instance : Inhabited PMk := ⟨⟨0, 0, 0⟩⟩
theorem ord_open {fuel : Nat} {cs : List Value} {y : DataW H × List MemPlace} (h : DataW.trod enc Tryz.prog w base spare held fuel 29 cs = some y) : ∃ o, cs = oCells o /\ o.fit := by
 obtain ⟨xs, m, -, -, hlen, hxl, hx⟩ := DataW.trod_struct Tryz.underlying29 h
 have h0 := hx 0 _ rfl; have h1 := hx 1 _ rfl; have h2 := hx 2 _ rfl; have h3 := hx 3 _ rfl
 rw [cellsOrder] at hlen
 match cs, hlen, xs, hxl with
 | [c0, c1, c2, c3], _, [y0, y1, y2, y3], _ =>
   simp only [List.getElem_toArray, List.getElem_cons_zero, List.getElem_cons_succ, List.getElem?_cons_zero, List.getElem?_cons_succ, cellsII, List.drop_zero, List.drop_succ_cons, List.take_succ_cons, List.take_zero] at h0 h1 h2 h3
   obtain ⟨k0, e0, -, f0⟩ := DataW.trod_int Tryz.underlying3 h0
   obtain ⟨k1, e1, -, f1⟩ := DataW.trod_int Tryz.underlying3 h1
   obtain ⟨k2, e2, -, f2⟩ := DataW.trod_int Tryz.underlying3 h2
   obtain ⟨k3, e3, -, f3⟩ := DataW.trod_int Tryz.underlying3 h3
   simp at e0 e1 e2 e3
   subst e0 e1 e2 e3
   exact ⟨⟨k0, k1, k2, k3⟩, rfl, wf_fit f0, wf_fit f1, wf_fit f2, wf_fit f3⟩
theorem mk_open {fuel : Nat} {cs : List Value} {y : DataW H × List MemPlace} (h : DataW.trod enc Tryz.prog w base spare held fuel 43 cs = some y) : ∃ o, cs = mCells o /\ o.fit := by
 obtain ⟨xs, m, -, -, hlen, hxl, hx⟩ := DataW.trod_struct Tryz.underlying43 h
 have h0 := hx 0 _ rfl; have h1 := hx 1 _ rfl; have h2 := hx 2 _ rfl
 rw [cellsMake] at hlen
 match cs, hlen, xs, hxl with
 | [c0, c1, c2], _, [y0, y1, y2], _ =>
   simp only [List.getElem_toArray, List.getElem_cons_zero, List.getElem_cons_succ, List.getElem?_cons_zero, List.getElem?_cons_succ, cellsII, List.drop_zero, List.drop_succ_cons, List.take_succ_cons, List.take_zero] at h0 h1 h2
   obtain ⟨k0, e0, -, f0⟩ := DataW.trod_int Tryz.underlying3 h0
   obtain ⟨k1, e1, -, f1⟩ := DataW.trod_int Tryz.underlying3 h1
   obtain ⟨k2, e2, -, f2⟩ := DataW.trod_int Tryz.underlying3 h2
   simp at e0 e1 e2
   subst e0 e1 e2
   exact ⟨⟨k0, k1, k2⟩, rfl, wf_fit f0, wf_fit f1, wf_fit f2⟩
theorem arg_book {r : Reach} {b0 : Nat} {v : Value} {d : DataW H} {p : List MemPlace} (hv : Value.okWide Tryz.prog w r b0 27 v) (h : DataW.Trod enc Tryz.prog w base spare held 27 v d p) (hw : Wt Tryz.prog 27 d) : ArgBook w v := by
 obtain ⟨cs, rfl, hsz⟩ := okWide_struct Tryz.underlying27 hv
 obtain ⟨fuel, hf⟩ := h
 obtain ⟨xs, m, -, hd, hlen, hxl, hx⟩ := DataW.trod_struct Tryz.underlying27 hf
 injection hd with hd _
 have h0 := hx 0 _ rfl; have h1 := hx 1 _ rfl; have h2 := hx 2 _ rfl; have h3 := hx 3 _ rfl; have h4 := hx 4 _ rfl; have h5 := hx 5 _ rfl
 rw [cellsBook] at hlen
 obtain ⟨l⟩ := cs
 match l, hlen, xs, hxl with
 | [c0, c1, c2, c3, c4, c5], _, [y0, y1, y2, y3, y4, y5], _ =>
   simp only [List.getElem_toArray, List.getElem_cons_zero, List.getElem_cons_succ, List.getElem?_cons_zero, List.getElem?_cons_succ, Value.cells, cellsItems, cellsII, cellsIIs, cellsOrders, cellsMakes, List.drop_zero, List.drop_succ_cons, List.take_succ_cons, List.take_zero] at h0 h1 h2 h3 h4 h5
   rw [hd] at hw
   obtain ⟨A1, n1, d1, e0, g0⟩ := items_open h0 (Wt.struct (j := 0) Tryz.underlying27 hw rfl rfl)
   obtain ⟨k1, e1, -, f1⟩ := DataW.trod_int Tryz.underlying3 h1
   obtain ⟨k2, e2, -, f2⟩ := DataW.trod_int Tryz.underlying3 h2
   obtain ⟨A2, n2, d2, caps, e3, g3, f3⟩ := is_open h3
   obtain ⟨A3, n3, d3, ords, e4, g4, f4⟩ := recs_open (en := oCells) (ok := POrd.fit) Tryz.underlying24 cellsOrder (by omega) (fun _ => rfl) (fun h => ord_open h) h4
   obtain ⟨A4, n4, d4, mks, e5, g5, f5⟩ := recs_open (en := mCells) (ok := PMk.fit) Tryz.underlying25 cellsMake (by omega) (fun _ => rfl) (fun h => mk_open h) h5
   simp at e0 e1 e2 e3 e4 e5
   subst e0 e1 e2 e3 e4 e5
   exact ⟨_, _, _, _, _, _, _, _, _, _, _, _, k1, k2, caps, ords, mks, rfl, g0, g3, g4, g5, wf_fit f1, wf_fit f2, f3, f4, f5⟩
end
end Go.Proofs.YtncbebfhakcgdaaGreat
namespace Go.Proofs.YtncbebfhakcgdaaGreat
open Go.RowKit
structure POp where
 kind : Int
 ord : POrd
 id : Int
 period : Int
 qty : Int
 qtys : List Int
def POrd.isZ (o : POrd) : Bool := decide (o.id = 0 /\ o.item = 0 /\ o.due = 0 /\ o.qty = 0)
def plainB (o : POp) : Bool :=
 decide (1 <= o.kind /\ o.kind <= 5) && (decide (o.kind = 1) || o.ord.isZ) && (decide (o.kind = 2) || decide (o.id = 0)) && (decide (o.kind = 3 ∨ o.kind = 5) || decide (o.period = 0)) && (decide (o.kind = 3) || decide (o.qty = 0)) && (decide (o.kind = 5) || decide (o.qtys.length = 0))
def perE (D : PBook) (p : Int) : Int := if p < 0 ∨ 39 < p then 1 else if p < D.now then 13 else if D.mks.any (fun x => decide (x.period = p)) then 9 else 0
def insO (l : List POrd) (o : POrd) : List POrd := l.filter (fun x => decide (x.id < o.id)) ++ o :: l.filter (fun x => decide (o.id < x.id))
instance instOkP (o : POrd) (n : Nat) : Decidable (o.okP n) := by unfold POrd.okP; infer_instance
def ordV (D : PBook) (o : POrd) : Except Int PBook :=
 if decide (o.okP D.items.length) = false then .error 1 else if D.ords.any (fun x => decide (x.id = o.id)) then .error 7 else if o.due < D.now then .error 13 else if 30 <= D.ords.length then .error 3 else .ok { D with ords := insO D.ords o }
def canV (D : PBook) (id : Int) : Except Int PBook :=
 if D.ords.any (fun x => decide (x.id = id)) = false then .error 8 else if D.ords.any (fun x => decide (x.id = id /\ x.due < D.now)) then .error 13 else .ok { D with ords := D.ords.filter fun x => decide (x.id ≠ id) }
def setC (l : List Int) (p : Nat) (q : Int) : List Int := (l ++ List.replicate (p + 1 - l.length) 0).set p q
def capS (D : PBook) (p q : Int) : Except Int PBook :=
 if q < 0 ∨ 100 < q then .error 1 else if perE D p ≠ 0 then .error (perE D p) else .ok { D with caps := setC D.caps p.toNat q }
def advV (D : PBook) : Except Int PBook := if 40 <= D.now then .error 3 else .ok { D with now := D.now + 1 }
def mksFrom (p : Int) : List Int -> Nat -> List PMk
 | [], _ => []
 | q :: qs, i => ⟨i, p, q⟩ :: mksFrom p qs (i+1)
def putM (l : List PMk) (p : Int) (qs : List Int) : List PMk := l.filter (fun x => decide (x.period < p)) ++ (mksFrom p qs 0 ++ l.filter (fun x => decide (p < x.period)))
def badQ (qs : List Int) : Bool := qs.any fun n => decide (n < 0 ∨ 100 < n)
noncomputable def comV (D : PBook) (p : Int) (qs : List Int) : Except Int PBook :=
 if qs.length ≠ D.items.length then .error 1 else if badQ qs then .error 1 else if perE D p ≠ 0 then .error (perE D p) else if capV D p < sumI qs then .error 10 else .ok { D with mks := putM D.mks p qs }
noncomputable def applyV (D : PBook) (o : POp) : Except Int PBook :=
 if mayB D = false ∨ plainB o = false then .error 1 else if o.kind = 1 then ordV D o.ord else if o.kind = 2 then canV D o.id else if o.kind = 3 then capS D o.period o.qty else if o.kind = 5 then comV D o.period o.qtys else advV D
theorem pw_of_rises {α : Type} {f : α -> Int} : ∀ {l : List α}, (∀ (i : Nat) a b, l[i]? = some a -> l[i+1]? = some b -> f a < f b) -> l.Pairwise (fun a b => f a < f b)
 | [], _ => List.Pairwise.nil
 | [x], _ => by simp
 | x :: y :: l, h => by
   have ih : (y :: l).Pairwise (fun a b => f a < f b) := pw_of_rises fun i a b h1 h2 => h (i+1) a b (by simpa using h1) (by simpa using h2)
   refine List.Pairwise.cons (fun z hz => ?_) ih
   have h0 := h 0 x y rfl rfl
   rcases List.mem_cons.1 hz with rfl | hz
   ·exact h0
   ·have := (List.pairwise_cons.1 ih).1 z hz; omega
theorem rises_of_pw {α : Type} {f : α -> Int} {l : List α} (h : l.Pairwise (fun a b => f a < f b)) (i : Nat) (a b : α) (h1 : l[i]? = some a) (h2 : l[i+1]? = some b) : f a < f b := by
 obtain ⟨k1, e1⟩ := List.getElem?_eq_some_iff.1 h1
 obtain ⟨k2, e2⟩ := List.getElem?_eq_some_iff.1 h2
 have := (List.pairwise_iff_getElem.1 h) i (i+1) k1 k2 (by omega)
 rw [e1, e2] at this; exact this
theorem pw_inj {α : Type} {f : α -> Int} {l : List α} (h : l.Pairwise (fun a b => f a < f b)) {a b : α} (ha : a ∈ l) (hb : b ∈ l) (e : f a = f b) : a = b := by
 induction l with
 | nil => cases ha
 | cons x l ih =>
   obtain ⟨h1, h2⟩ := List.pairwise_cons.1 h
   rcases List.mem_cons.1 ha with e1 | e1 <;> rcases List.mem_cons.1 hb with e2 | e2
   ·rw [e1, e2]
   ·have := h1 b e2; rw [e1] at e; omega
   ·have := h1 a e1; rw [e2] at e; omega
   ·exact ih h2 e1 e2
theorem pw_ext {α : Type} {f : α -> Int} : ∀ {l m : List α}, l.Pairwise (fun a b => f a < f b) -> m.Pairwise (fun a b => f a < f b) -> (∀ x, x ∈ l ↔ x ∈ m) -> l = m
 | [], [], _, _, _ => rfl
 | [], y :: m, _, _, h => by have := (h y).2 (by simp); simp at this
 | x :: l, [], _, _, h => by have := (h x).1 (by simp); simp at this
 | x :: l, y :: m, h1, h2, h => by
   obtain ⟨a1, a2⟩ := List.pairwise_cons.1 h1
   obtain ⟨b1, b2⟩ := List.pairwise_cons.1 h2
   have hxy : x = y := by
    rcases List.mem_cons.1 ((h x).1 (by simp)) with e | e
    ·exact e
    ·rcases List.mem_cons.1 ((h y).2 (by simp)) with e' | e'
     ·exact e'.symm
     ·have := b1 x e; have := a1 y e'; omega
   subst hxy
   rw [pw_ext a2 b2 fun z => ?_]
   constructor
   ·intro hz
    rcases List.mem_cons.1 ((h z).1 (List.mem_cons_of_mem _ hz)) with rfl | e
    ·have := a1 z hz; omega
    ·exact e
   ·intro hz
    rcases List.mem_cons.1 ((h z).2 (List.mem_cons_of_mem _ hz)) with rfl | e
    ·have := b1 z hz; omega
    ·exact e
theorem pw_len {l : List Int} (h : l.Pairwise (· < ·)) (a b : Int) (h1 : ∀ x ∈ l, a <= x /\ x < b) : (l.length : Int) <= b - a ∨ l = [] := by
 induction l generalizing a with
 | nil => exact .inr rfl
 | cons x l ih =>
   left
   obtain ⟨a1, a2⟩ := List.pairwise_cons.1 h
   have hx := h1 x (by simp)
   rcases ih a2 (x+1) (fun y hy => ⟨by have := a1 y hy; omega, (h1 y (by simp [hy])).2⟩) with h3 | h3
   ·rw [List.length_cons]; omega
   ·subst h3; simp; omega
theorem filter_two {α : Type} (p q : α -> Bool) (h : ∀ x, p x = true -> q x = false) (l : List α) : (l.filter p).length + (l.filter q).length <= l.length := by
 induction l with
 | nil => simp
 | cons x l ih =>
   rw [List.filter_cons, List.filter_cons]
   have := h x
   cases hp : p x <;> cases hq : q x <;> simp_all <;> omega
theorem filter_two_eq {α : Type} (p q : α -> Bool) (l : List α) (h : ∀ x ∈ l, p x = !q x) : (l.filter p).length + (l.filter q).length = l.length := by
 induction l with
 | nil => simp
 | cons x l ih =>
   rw [List.filter_cons, List.filter_cons]
   have h1 := h x (by simp)
   have := ih fun y hy => h y (by simp [hy])
   cases hq : q x <;> simp_all <;> omega
theorem MayP.oPw {D : PBook} (h : MayP D) : D.ords.Pairwise fun a b => a.id < b.id := pw_of_rises (f := POrd.id) h.oris
theorem MayP.mPw {D : PBook} (h : MayP D) : D.mks.Pairwise fun a b => a.key < b.key := pw_of_rises (f := PMk.key) h.mris
theorem mksFrom_mem {p : Int} : ∀ {qs : List Int} {i : Nat} {x : PMk}, x ∈ mksFrom p qs i -> x.period = p /\ (i : Int) <= x.item /\ x.item < i + qs.length /\ x.qty ∈ qs
 | [], _, _, h => by cases h
 | q :: qs, i, x, h => by
   rcases List.mem_cons.1 h with rfl | h
   ·refine ⟨rfl, ?_, ?_, by simp⟩ <;> simp <;> omega
   ·have := mksFrom_mem h
    refine ⟨this.1, by omega, ?_, List.mem_cons_of_mem _ this.2.2.2⟩
    rw [List.length_cons]; omega
theorem mksFrom_pw {p : Int} : ∀ (qs : List Int) (i : Nat), (mksFrom p qs i).Pairwise fun a b => a.key < b.key
 | [], _ => List.Pairwise.nil
 | q :: qs, i => List.Pairwise.cons (fun y hy => by have := mksFrom_mem hy; unfold PMk.key; dsimp only; omega) (mksFrom_pw qs (i+1))
theorem mksFrom_len {p : Int} : ∀ (qs : List Int) (i : Nat), (mksFrom p qs i).length = qs.length
 | [], _ => rfl
 | q :: qs, i => by unfold mksFrom; rw [List.length_cons, List.length_cons, mksFrom_len qs]
theorem mks_len {D : PBook} (n : Nat) (hn : n <= 3) (h1 : ∀ x ∈ D.mks, x.okP n) (h2 : D.mks.Pairwise fun a b => a.key < b.key) : D.mks.length <= 120 := by
 have h3 : (D.mks.map fun x => 3 * x.period + x.item).Pairwise (· < ·) := by
  rw [List.pairwise_map]
  refine List.Pairwise.imp_of_mem (fun {a b} ha hb hab => ?_) h2
  have e1 := h1 a ha; have e2 := h1 b hb
  unfold PMk.okP at e1 e2; unfold PMk.key at hab
  omega
 rcases pw_len h3 0 120 (fun x hx => by
  obtain ⟨y, hy, rfl⟩ := List.mem_map.1 hx
  have e1 := h1 y hy
  unfold PMk.okP at e1; omega) with h | h
 ·rw [List.length_map] at h; omega
 ·have := List.map_eq_nil_iff.1 h; rw [this]; simp
theorem setC_len {l : List Int} {p : Nat} {q : Int} : (setC l p q).length = max l.length (p+1) := by unfold setC; simp; omega
theorem setC_get {l : List Int} {p t : Nat} {q : Int} : (setC l p q).getD t 0 = if t = p then q else l.getD t 0 := by
 unfold setC
 rw [List.getD_eq_getElem?_getD, List.getD_eq_getElem?_getD, List.getElem?_set]
 by_cases h : p = t
 ·subst h
  have : p < (l ++ List.replicate (p + 1 - l.length) 0).length := by simp; omega
  rw [if_pos rfl, if_pos rfl, if_pos this]; rfl
 ·rw [if_neg h, if_neg (fun e => h e.symm)]
  by_cases h1 : t < l.length
  ·rw [List.getElem?_append_left h1]
  ·rw [List.getElem?_append_right (by omega), List.getElem?_eq_none (show l.length <= t by omega), List.getElem?_replicate]
   split <;> rfl
theorem setC_mem {l : List Int} {p : Nat} {q x : Int} (h : x ∈ setC l p q) : x ∈ l ∨ x = 0 ∨ x = q := by
 unfold setC at h
 rcases List.mem_or_eq_of_mem_set h with h | h
 ·rcases List.mem_append.1 h with h | h
  ·exact .inl h
  ·exact .inr (.inl (List.eq_of_mem_replicate h))
 ·exact .inr (.inr h)
theorem perE_ok {D : PBook} {p : Int} (h : perE D p = 0) : 0 <= p /\ p <= 39 /\ D.now <= p /\ ∀ x ∈ D.mks, x.period ≠ p := by
 unfold perE at h
 split at h
 ·cases h
 ·split at h
  ·cases h
  ·split at h
   ·cases h
   ·rename_i h1 h2 h3
    refine ⟨by omega, by omega, by omega, fun x hx e => h3 ?_⟩
    exact List.any_eq_true.2 ⟨x, hx, by simpa using e⟩
theorem head_of {D D' : PBook} (h : HeadP D) (h1 : D'.items = D.items) (h2 : D'.hor = D.hor) (h3 : 0 <= D'.now /\ D'.now <= 40) (h4 : D'.caps.length <= 40 /\ ∀ c ∈ D'.caps, 0 <= c /\ c <= 100) : HeadP D' :=
 ⟨by rw [h1]; exact h.items, h4.2, by rw [h1]; exact h.n1, by rw [h1]; exact h.n3, by rw [h2]; exact h.h1, by rw [h1, h2]; exact h.h6, h3.1, h3.2, h4.1⟩
theorem putM_mem {l : List PMk} {p : Int} {qs : List Int} {x : PMk} : x ∈ putM l p qs ↔ (x ∈ l /\ x.period ≠ p) ∨ x ∈ mksFrom p qs 0 := by
 unfold putM
 rw [List.mem_append, List.mem_append, List.mem_filter, List.mem_filter, decide_eq_true_iff, decide_eq_true_iff]
 constructor
 ·rintro (⟨h1, h2⟩ | h | ⟨h1, h2⟩)
  ·exact .inl ⟨h1, by omega⟩
  ·exact .inr h
  ·exact .inl ⟨h1, by omega⟩
 ·rintro (⟨h1, h2⟩ | h)
  ·by_cases h3 : x.period < p
   ·exact .inl ⟨h1, h3⟩
   ·exact .inr (.inr ⟨h1, by omega⟩)
  ·exact .inr (.inl h)
theorem apply_ok {D D' : PBook} {o : POp} (h : applyV D o = .ok D') : MayP D /\ plainB o = true /\
 ((o.kind = 1 /\ o.ord.okP D.items.length /\ (∀ x ∈ D.ords, x.id ≠ o.ord.id) /\ D.now <= o.ord.due /\ D.ords.length < 30 /\ D' = { D with ords := insO D.ords o.ord }) ∨
  (o.kind = 2 /\ (∃ x ∈ D.ords, x.id = o.id) /\ (∀ x ∈ D.ords, x.id = o.id -> D.now <= x.due) /\ D' = { D with ords := D.ords.filter fun x => decide (x.id ≠ o.id) }) ∨
  (o.kind = 3 /\ (0 <= o.qty /\ o.qty <= 100) /\ perE D o.period = 0 /\ D' = { D with caps := setC D.caps o.period.toNat o.qty }) ∨
  (o.kind = 5 /\ o.qtys.length = D.items.length /\ badQ o.qtys = false /\ perE D o.period = 0 /\ sumI o.qtys <= capV D o.period /\ D' = { D with mks := putM D.mks o.period o.qtys }) ∨
  (o.kind = 4 /\ D.now < 40 /\ D' = { D with now := D.now + 1 })) := by
 unfold applyV at h
 split at h
 ·cases h
 rename_i h0
 have hm : mayB D = true := by cases hm : mayB D <;> simp_all
 have hp : plainB o = true := by cases hm : plainB o <;> simp_all
 refine ⟨mayB_iff.1 hm, hp, ?_⟩
 have hk : 1 <= o.kind /\ o.kind <= 5 := by
  unfold plainB at hp
  simp only [Bool.and_eq_true, decide_eq_true_iff] at hp
  exact hp.1.1.1.1.1
 split at h
 ·rename_i k; left
  unfold ordV at h
  split at h
  ·cases h
  ·split at h
   ·cases h
   ·split at h
    ·cases h
    ·split at h
     ·cases h
     ·rename_i g1 g2 g3 g4
      injection h with h
      refine ⟨k, by simpa using g1, fun x hx e => g2 (List.any_eq_true.2 ⟨x, hx, by simpa using e⟩), by omega, by omega, h.symm⟩
 ·split at h
  ·rename_i k; right; left
   unfold canV at h
   split at h
   ·cases h
   ·split at h
    ·cases h
    ·rename_i g1 g2
     injection h with h
     have g1' : D.ords.any (fun x => decide (x.id = o.id)) = true := by simpa using g1
     obtain ⟨x, hx, e⟩ := List.any_eq_true.1 g1'
     refine ⟨k, ⟨x, hx, by simpa using e⟩, fun y hy e2 => ?_, h.symm⟩
     refine Int.not_lt.1 fun hl => g2 (List.any_eq_true.2 ⟨y, hy, by simp; exact ⟨e2, hl⟩⟩)
  ·split at h
   ·rename_i k; right; right; left
    unfold capS at h
    split at h
    ·cases h
    ·split at h
     ·cases h
     ·rename_i g1 g2
      injection h with h
      exact ⟨k, ⟨by omega, by omega⟩, by omega, h.symm⟩
   ·split at h
    ·rename_i k; right; right; right; left
     unfold comV at h
     split at h
     ·cases h
     ·split at h
      ·cases h
      ·split at h
       ·cases h
       ·split at h
        ·cases h
        ·rename_i g1 g2 g3 g4
         injection h with h
         exact ⟨k, by omega, by simpa using g2, by omega, by omega, h.symm⟩
    ·rename_i k1 k2 k3 k5; right; right; right; right
     unfold advV at h
     split at h
     ·cases h
     ·rename_i g
      injection h with h
      exact ⟨by omega, by omega, h.symm⟩
theorem apply_may {D D' : PBook} {o : POp} (h : applyV D o = .ok D') : MayP D' := by
 obtain ⟨hm, hp, h⟩ := apply_ok h
 have hd := hm.head
 rcases h with ⟨-, a1, a2, a3, a4, rfl⟩ | ⟨-, -, -, rfl⟩ | ⟨-, a1, a2, rfl⟩ | ⟨-, a1, a2, a3, a4, rfl⟩ | ⟨-, a1, rfl⟩
 ·have hpw : (insO D.ords o.ord).Pairwise fun a b => a.id < b.id := by
   unfold insO
   rw [List.pairwise_append]
   refine ⟨hm.oPw.filter _, List.Pairwise.cons (fun b hb => ?_) (hm.oPw.filter _), fun a ha b hb => ?_⟩
   ·simpa using (List.mem_filter.1 hb).2
   ·have h1 : a.id < o.ord.id := by simpa using (List.mem_filter.1 ha).2
    rcases List.mem_cons.1 hb with rfl | hb
    ·exact h1
    ·have h2 : o.ord.id < b.id := by simpa using (List.mem_filter.1 hb).2
     omega
  refine ⟨head_of hd rfl rfl ⟨hd.t0, hd.t40⟩ ⟨hd.cl, hd.caps⟩, ?_, hm.ml, fun x hx => ?_, hm.mks, rises_of_pw (f := POrd.id) hpw, hm.mris⟩
  ·have := filter_two (fun x : POrd => decide (x.id < o.ord.id)) (fun x => decide (o.ord.id < x.id)) (fun x h => by simp at h ⊢; omega) D.ords
   unfold insO; simp only [List.length_append, List.length_cons]; omega
  ·have hx' : x ∈ insO D.ords o.ord := hx
   unfold insO at hx'
   rcases List.mem_append.1 hx' with h1 | h1
   ·exact hm.ords x (List.mem_filter.1 h1).1
   ·rcases List.mem_cons.1 h1 with rfl | h1
    ·exact a1
    ·exact hm.ords x (List.mem_filter.1 h1).1
 ·refine ⟨head_of hd rfl rfl ⟨hd.t0, hd.t40⟩ ⟨hd.cl, hd.caps⟩, ?_, hm.ml, fun x hx => hm.ords x (List.mem_filter.1 hx).1, hm.mks, rises_of_pw (f := POrd.id) (hm.oPw.filter _), hm.mris⟩
  have := List.length_filter_le (fun x : POrd => decide (x.id ≠ o.id)) D.ords
  have := hm.ol
  dsimp only; omega
 ·obtain ⟨b1, b2, b3, b4⟩ := perE_ok a2
  refine ⟨head_of hd rfl rfl ⟨hd.t0, hd.t40⟩ ⟨?_, fun c hc => ?_⟩, hm.ol, hm.ml, hm.ords, hm.mks, hm.oris, hm.mris⟩
  ·have := hd.cl; dsimp only; rw [setC_len]; omega
  ·rcases setC_mem hc with h | h | h
   ·exact hd.caps c h
   ·omega
   ·omega
 ·obtain ⟨b1, b2, b3, b4⟩ := perE_ok a3
  have hq : ∀ q ∈ o.qtys, 0 <= q /\ q <= 100 := fun q hq => by
   have := List.any_eq_false.1 a2 q hq; simp at this; omega
  have hok : ∀ x ∈ putM D.mks o.period o.qtys, x.okP D.items.length := fun x hx => by
   rcases putM_mem.1 hx with ⟨h1, -⟩ | h1
   ·exact hm.mks x h1
   ·have h2 := mksFrom_mem h1
    have h3 := hq _ h2.2.2.2
    unfold PMk.okP; rw [<- a1]; omega
  have hpw : (putM D.mks o.period o.qtys).Pairwise fun a b => a.key < b.key := by
   have hi : ∀ x ∈ D.mks, 0 <= x.item /\ x.item < 3 := fun x hx => by have := hm.mks x hx; have := hd.n3; unfold PMk.okP at *; omega
   have hi2 : ∀ x ∈ mksFrom o.period o.qtys 0, 0 <= x.item /\ x.item < 3 /\ x.period = o.period := fun x hx => by have := mksFrom_mem hx; have := hd.n3; omega
   unfold putM
   rw [List.pairwise_append, List.pairwise_append]
   refine ⟨hm.mPw.filter _, ⟨mksFrom_pw _ _, hm.mPw.filter _, fun a ha b hb => ?_⟩, fun a ha b hb => ?_⟩
   ·have h1 := hi2 a ha
    have h2 := List.mem_filter.1 hb
    have h3 := hi b h2.1
    have h4 : o.period < b.period := by simpa using h2.2
    unfold PMk.key; omega
   ·have h1 := List.mem_filter.1 ha
    have h2 := hi a h1.1
    have h3 : a.period < o.period := by simpa using h1.2
    rcases List.mem_append.1 hb with hb | hb
    ·have h4 := hi2 b hb
     unfold PMk.key; omega
    ·have h5 := List.mem_filter.1 hb
     have h6 := hi b h5.1
     have h7 : o.period < b.period := by simpa using h5.2
     unfold PMk.key; omega
  exact ⟨head_of hd rfl rfl ⟨hd.t0, hd.t40⟩ ⟨hd.cl, hd.caps⟩, hm.ol, mks_len (D := { D with mks := putM D.mks o.period o.qtys }) _ hd.n3 hok hpw, hm.ords, hok, hm.oris, rises_of_pw (f := PMk.key) hpw⟩
 ·exact ⟨head_of hd rfl rfl ⟨by have := hd.t0; dsimp only; omega, by dsimp only; omega⟩ ⟨hd.cl, hd.caps⟩, hm.ol, hm.ml, hm.ords, hm.mks, hm.oris, hm.mris⟩
theorem apply_keeps {D D' : PBook} {o : POp} (h : applyV D o = .ok D') : ∀ x ∈ D.mks, x ∈ D'.mks := by
 obtain ⟨hm, hp, h⟩ := apply_ok h
 intro x hx
 rcases h with ⟨-, a1, a2, a3, a4, rfl⟩ | ⟨-, -, -, rfl⟩ | ⟨-, a1, a2, rfl⟩ | ⟨-, a1, a2, a3, a4, rfl⟩ | ⟨-, a1, rfl⟩
 ·exact hx
 ·exact hx
 ·exact hx
 ·exact putM_mem.2 (.inl ⟨hx, (perE_ok a3).2.2.2 x hx⟩)
 ·exact hx
theorem apply_items {D D' : PBook} {o : POp} (h : applyV D o = .ok D') : D'.items = D.items /\ D'.hor = D.hor := by
 obtain ⟨hm, hp, h⟩ := apply_ok h
 rcases h with ⟨-, a1, a2, a3, a4, rfl⟩ | ⟨-, -, -, rfl⟩ | ⟨-, a1, a2, rfl⟩ | ⟨-, a1, a2, a3, a4, rfl⟩ | ⟨-, a1, rfl⟩ <;> exact ⟨rfl, rfl⟩
theorem fixedV_mem {D : PBook} (h : MayP D) {x : PMk} (hx : x ∈ D.mks) : fixedV D x.item x.period = some x.qty := by
 unfold fixedV
 rw [if_pos (mayB_iff.2 h)]
 cases e : D.mks.find? fun y => decide (y.item = x.item /\ y.period = x.period) with
 | none => have := List.find?_eq_none.1 e x hx; simp at this
 | some y =>
   have h1 : y ∈ D.mks := List.mem_of_find?_eq_some e
   have h2 := List.find?_some e
   simp only [decide_eq_true_iff] at h2
   rw [pw_inj h.mPw h1 hx (by unfold PMk.key; omega)]; rfl
theorem insO_len {l : List POrd} {o : POrd} (h : ∀ x ∈ l, x.id ≠ o.id) : (insO l o).length = l.length + 1 := by
 have := filter_two_eq (fun x : POrd => decide (x.id < o.id)) (fun x => decide (o.id < x.id)) l fun x hx => by
  have := h x hx
  by_cases h1 : x.id < o.id
  ·have : ¬ o.id < x.id := by omega
   simp [h1, this]
  ·have : o.id < x.id := by omega
   simp [h1, this]
 unfold insO; rw [List.length_append, List.length_cons]; omega
def mkOrd (o : POrd) : POp := ⟨1, o, 0, 0, 0, []⟩
def mkCan (id : Int) : POp := ⟨2, ⟨0, 0, 0, 0⟩, id, 0, 0, []⟩
def mkCap (p q : Int) : POp := ⟨3, ⟨0, 0, 0, 0⟩, 0, p, q, []⟩
def mkAdv : POp := ⟨4, ⟨0, 0, 0, 0⟩, 0, 0, 0, []⟩
def mkCom (p : Int) (qs : List Int) : POp := ⟨5, ⟨0, 0, 0, 0⟩, 0, p, 0, qs⟩
theorem mkOrd_plain (o : POrd) : plainB (mkOrd o) = true := by unfold plainB mkOrd; simp
theorem mkCan_plain (i : Int) : plainB (mkCan i) = true := by unfold plainB mkCan POrd.isZ; simp
theorem mkCap_plain (p q : Int) : plainB (mkCap p q) = true := by unfold plainB mkCap POrd.isZ; simp
theorem mkAdv_plain : plainB mkAdv = true := by unfold plainB mkAdv POrd.isZ; simp
theorem mkCom_plain (p : Int) (qs : List Int) : plainB (mkCom p qs) = true := by unfold plainB mkCom POrd.isZ; simp
theorem apply_ord {D : PBook} (h : MayP D) (o : POrd) : applyV D (mkOrd o) = ordV D o := by
 unfold applyV; rw [if_neg (by rw [mayB_iff.2 h, mkOrd_plain]; simp), if_pos (show (mkOrd o).kind = 1 from rfl)]; rfl
theorem apply_cap {D : PBook} (h : MayP D) (p q : Int) : applyV D (mkCap p q) = capS D p q := by
 unfold applyV; rw [if_neg (by rw [mayB_iff.2 h, mkCap_plain]; simp), if_neg (by unfold mkCap; simp), if_neg (by unfold mkCap; simp), if_pos (show (mkCap p q).kind = 3 from rfl)]; rfl
theorem apply_com {D : PBook} (h : MayP D) (p : Int) (qs : List Int) : applyV D (mkCom p qs) = comV D p qs := by
 unfold applyV; rw [if_neg (by rw [mayB_iff.2 h, mkCom_plain]; simp), if_neg (by unfold mkCom; simp), if_neg (by unfold mkCom; simp), if_neg (by unfold mkCom; simp), if_pos (show (mkCom p qs).kind = 5 from rfl)]; rfl
theorem apply_adv {D : PBook} (h : MayP D) : applyV D mkAdv = advV D := by
 unfold applyV; rw [if_neg (by rw [mayB_iff.2 h, mkAdv_plain]; simp), if_neg (by unfold mkAdv; simp), if_neg (by unfold mkAdv; simp), if_neg (by unfold mkAdv; simp), if_neg (by unfold mkAdv; simp)]
theorem capV_may {D : PBook} (h : MayP D) (p : Int) : capV D p = if 0 <= p then D.caps.getD p.toNat 0 else 0 := by
 unfold capV
 by_cases h0 : 0 <= p
 ·rw [if_pos h0]
  by_cases h1 : p < D.caps.length
  ·rw [if_pos ⟨mayB_iff.2 h, h0, h1⟩]
  ·rw [if_neg (fun h => h1 h.2.2), List.getD_eq_getElem?_getD, List.getElem?_eq_none (by omega)]; rfl
 ·rw [if_neg h0, if_neg (fun h => h0 h.2.1)]
structure FroP (D : PBook) : Prop where
 may : MayP D
 one : D.items.length = 1
 has : ∃ x ∈ D.mks, x.period = 39
theorem FroP.apply {D D' : PBook} {o : POp} (h : FroP D) (e : applyV D o = .ok D') : FroP D' := by
 obtain ⟨x, hx, h3⟩ := h.has
 exact ⟨apply_may e, by rw [(apply_items e).1]; exact h.one, x, apply_keeps e x hx, h3⟩
theorem FroP.per {D : PBook} (h : FroP D) : perE D 39 = if 39 < D.now then 13 else 9 := by
 obtain ⟨x, hx, h3⟩ := h.has
 unfold perE
 rw [if_neg (by omega)]
 split
 ·rfl
 ·rw [if_pos (List.any_eq_true.2 ⟨x, hx, by simpa using h3⟩)]
theorem FroP.com {D : PBook} (h : FroP D) : applyV D (mkCom 39 [0]) = .error (if 39 < D.now then 13 else 9) := by
 rw [apply_com h.may]
 unfold comV
 have e := h.per
 rw [if_neg (by rw [h.one]; simp), if_neg (by decide), if_pos (by rw [e]; split <;> simp), e]
theorem FroP.cap {D : PBook} (h : FroP D) : applyV D (mkCap 39 1) = .error (if 39 < D.now then 13 else 9) := by
 rw [apply_cap h.may]
 unfold capS
 have e := h.per
 rw [if_neg (by omega), if_pos (by rw [e]; split <;> simp), e]
def newD (items : List PItem) (hor : Int) : PBook := ⟨items, hor, 0, [], [], []⟩
theorem newD_may {items : List PItem} {hor : Int} (h : HeadP (newD items hor)) : MayP (newD items hor) := ⟨h, (by simp [newD]), (by simp [newD]), (fun _ h => by cases h), (fun _ h => by cases h), (fun i a b h => by simp [newD] at h), (fun i a b h => by simp [newD] at h)⟩
structure OrdsP (items : List PItem) (hor : Int) (l : List POrd) (D : PBook) : Prop where
 may : MayP D
 eq : D = { newD items hor with ords := D.ords }
 len : D.ords.length = l.length
 mem : ∀ x, x ∈ D.ords ↔ x ∈ l
theorem OrdsP.same {items : List PItem} {hor : Int} {l m : List POrd} {A B : PBook} (h : OrdsP items hor l A) (k : OrdsP items hor m B) (e : ∀ x, x ∈ l ↔ x ∈ m) : A = B := by
 rw [h.eq, k.eq, pw_ext (f := POrd.id) h.may.oPw k.may.oPw fun x => by rw [h.mem, k.mem, e]]
theorem insO_mem {l : List POrd} {o : POrd} (h : ∀ x ∈ l, x.id ≠ o.id) (x : POrd) : x ∈ insO l o ↔ x ∈ l ∨ x = o := by
 unfold insO
 rw [List.mem_append, List.mem_cons, List.mem_filter, List.mem_filter]
 simp only [decide_eq_true_iff]
 constructor
 ·rintro (h1 | h1 | h1)
  ·exact .inl h1.1
  ·exact .inr h1
  ·exact .inl h1.1
 ·rintro (h1 | h1)
  ·have := h x h1
   by_cases h2 : x.id < o.id
   ·exact .inl ⟨h1, h2⟩
   ·exact .inr (.inr ⟨h1, by omega⟩)
  ·exact .inr (.inl h1)
theorem OrdsP.step {items : List PItem} {hor : Int} {l : List POrd} {A C : PBook} {o : POrd} (h : OrdsP items hor l A) (e : applyV A (mkOrd o) = .ok C) : OrdsP items hor (l ++ [o]) C /\ o.okP items.length /\ ∀ x ∈ l, x.id ≠ o.id := by
 have hc := apply_may e
 obtain ⟨-, -, e⟩ := apply_ok e
 have hi : A.items = items := by rw [h.eq]; rfl
 rcases e with ⟨-, a1, a2, a3, a4, rfl⟩ | ⟨e, -⟩ | ⟨e, -⟩ | ⟨e, -⟩ | ⟨e, -⟩
 ·have a2' : ∀ x ∈ A.ords, x.id ≠ o.id := a2
  refine ⟨⟨hc, ?_, ?_, fun x => ?_⟩, by rw [<- hi]; exact a1, fun x hx => a2' x ((h.mem x).2 hx)⟩
  ·rw [h.eq]
  ·show (insO A.ords o).length = _; rw [insO_len a2', h.len]; simp
  ·show x ∈ insO A.ords o ↔ _; rw [insO_mem a2', h.mem, List.mem_append, List.mem_singleton]
 all_goals cases e
end Go.Proofs.YtncbebfhakcgdaaGreat
