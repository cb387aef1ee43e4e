/- Plans: what comes and goes of an item; what is there (the program). -/
import Derived.RangeFuncBox
import Derived.RangeFuncNested
import Derived.RangeFuncBound
import Derived.RangeFuncCalls
import Derived.RangeFuncLeaves
import Derived.Shelf.Abstract
import Derived.Shelf.RegionOpen
import Derived.OwnWalkIn
import Derived.TacticsInMore
import Derived.LoopNIn
import Derived.LoopIn
import Derived.Test.YtncbebfhakcgdaaGreatA14
import Derived.Test.YtncbebfhakcgdaaGreatA3
set_option linter.unusedVariables false
set_option linter.unusedSimpArgs false
set_option maxRecDepth 100000
namespace Go.Proofs.YtncbebfhakcgdaaGreat
open Go.RowKit Go.Shelf
attribute [local go_sem] Oper.semAt_some
def KeepBut (B gs : Nat) (W W' : World) : Prop := W.heap.size <= W'.heap.size /\ ∀ b, b < B -> b ≠ gs -> W'.heap[b]? = W.heap[b]?
theorem KeepBut.refl (B gs : Nat) (W : World) : KeepBut B gs W W := ⟨Nat.le_refl _, fun _ _ _ => rfl⟩
theorem KeepBut.trans {B gs : Nat} {A C D : World} (h : KeepBut B gs A C) (k : KeepBut B gs C D) : KeepBut B gs A D := ⟨Nat.le_trans h.1 k.1, fun b hb hne => (k.2 b hb hne).trans (h.2 b hb hne)⟩
theorem KeepBut.alloc {B gs : Nat} {A C : World} (h : KeepBut B gs A C) (hB : B <= C.heap.size) (o : Obj) : KeepBut B gs A (C.alloc o) :=
 ⟨by rw [World.size_alloc]; have := h.1; omega, fun b hb hne => (Below.heap_alloc C o b (by omega)).trans (h.2 b hb hne)⟩
theorem KeepBut.putObj {B gs S : Nat} (h1 : B <= S) : ∀ (W : World) (l : Nat) (o o' : Obj), S <= l -> W.heap[l]? = some o -> o.isCells = false -> o.isWalk = false -> KeepBut B gs W (W.putObj l o') := by
 intro W l o o' hl ho _ _
 exact ⟨by simp, fun k hk _ => World.putObj_heap_other (by omega)⟩
theorem KeepBut.row {B gs g : Nat} {W W' : World} {t : TypeId} {cs : List Value} (h : KeepBut B gs W W') (r : Row W g t cs) (hg : g < B) (hne : g ≠ gs) : Row W' g t cs := (h.2 g hg hne).trans r
end Go.Proofs.YtncbebfhakcgdaaGreat
namespace Go.Proofs.YtncbebfhakcgdaaGreat
open Go.RowKit Go.Shelf
attribute [local go_sem] Oper.semAt_some
end Go.Proofs.YtncbebfhakcgdaaGreat
namespace Go.Proofs.YtncbebfhakcgdaaGreat
open Go.RowKit Go.Shelf
attribute [local go_sem ↓] Go.wp_at_zero Go.wp_at_succ
end Go.Proofs.YtncbebfhakcgdaaGreat
namespace Go.Proofs.YtncbebfhakcgdaaGreat
open Go.RowKit Go.Shelf
attribute [local go_sem ↓] Go.wp_at_zero Go.wp_at_succ
set_option maxHeartbeats 8000000 in
theorem rhead_calls (w : World) (A1 A2 A3 A4 : Option Addr) (n1 n2 n3 n4 c1 c2 c3 c4 : Nat) (D : PBook) (h : BookIn w (.slice A1 n1 c1) (.slice A2 n2 c2) (.slice A3 n3 c3) (.slice A4 n4 c4) D) (u : Bool) (hu : headB D = u) :
 Calls Tryz.prog 44 #[.agg #[.slice A1 n1 c1, .int .i64 D.hor, .int .i64 D.now, .slice A2 n2 c2, .slice A3 n3 c3, .slice A4 n4 c4]] w (RetV w (.bool u)) := by
 have H := hide h; have HU := hide hu
 obtain ⟨l1, l2, l3, l4⟩ := h.lens
 have L1 := hide l1; have L2 := hide l2
 have hn1 : n1 <= 1000 := by have := h.il; omega
 have hn2 : n2 <= 1000 := by have := h.cl; omega
 have HH := h.hfit; have HN := h.nfit
 unfold IFit at HH HN
 have HC := hide h.cfit
 clear h hu l1 l2 l3 l4
 obtain ⟨W0, hW0⟩ : ∃ W0, W0 = (w.alloc (Obj.cells #[Value.slice A1 n1 c1, Value.int .i64 D.hor, Value.int .i64 D.now, Value.slice A2 n2 c2, Value.slice A3 n3 c3, Value.slice A4 n4 c4] 27)) := ⟨_, rfl⟩
 obtain ⟨hb0, r0, hsz0⟩ := boxes1 w [.slice A1 n1 c1, .int .i64 D.hor, .int .i64 D.now, .slice A2 n2 c2, .slice A3 n3 c3, .slice A4 n4 c4] 27 hW0
 have B0 := hide hb0; have HW0 := hide hW0
 have R0 := hide r0
 clear hb0 hW0 hsz0 r0
 go_enter Tryz.func44, Tryz.ntmps44
 go_upto_region 1 with fail
 rw [<- HW0.out]
 have r_d := R0.out.later (Later.refl W0)
 have d0 := r_d.cell (i := 0) rfl; have d1 := r_d.cell (i := 1) rfl; have d2 := r_d.cell (i := 2) rfl; have d3 := r_d.cell (i := 3) rfl; have d4 := r_d.cell (i := 4) rfl; have d5 := r_d.cell (i := 5) rfl
 clear r_d
 by_cases g0 : (n1 : Int) < 1
 ·have k0 : decide ((n1 : Int) < 1) = true := by simpa using g0
  have HF : Hid (u = false) := hide (Bool.eq_false_iff.2 (fun h => by
   have h5 := headB_iff.1 (HU.out.trans h)
   have h6 := h5.n1; rw [<- L1.out] at h6; omega))
  go_wp2_with fail
  go_ret
  exact ⟨by rw [HF.out]; rfl, B0.out⟩
 have k0 : decide ((n1 : Int) < 1) = false := by simpa using g0
 by_cases g1 : (3 : Int) < n1
 ·have k1 : decide ((3 : Int) < n1) = true := by simpa using g1
  have HF : Hid (u = false) := hide (Bool.eq_false_iff.2 (fun h => by
   have h5 := headB_iff.1 (HU.out.trans h)
   have h6 := h5.n3; rw [<- L1.out] at h6; omega))
  go_wp2_with fail
  go_ret
  exact ⟨by rw [HF.out]; rfl, B0.out⟩
 have k1 : decide ((3 : Int) < n1) = false := by simpa using g1
 by_cases g2 : D.hor < 1
 ·have k2 : decide (D.hor < 1) = true := by simpa using g2
  have HF : Hid (u = false) := hide (Bool.eq_false_iff.2 (fun h => by
   have h5 := headB_iff.1 (HU.out.trans h)
   have h6 := h5.h1; have := L2.out; omega))
  go_wp2_with fail
  go_ret
  exact ⟨by rw [HF.out]; rfl, B0.out⟩
 have k2 : decide (D.hor < 1) = false := by simpa using g2
 by_cases g3 : (6 : Int) < D.hor
 ·have k3 : decide ((6 : Int) < D.hor) = true := by simpa using g3
  have HF : Hid (u = false) := hide (Bool.eq_false_iff.2 (fun h => by
   have h5 := headB_iff.1 (HU.out.trans h)
   have h6 := h5.h6; rw [<- L1.out] at h6
   have h7 : n1 = 1 ∨ n1 = 2 ∨ n1 = 3 := by omega
   rcases h7 with h7 | h7 | h7 <;> rw [h7] at h6 <;> omega))
  go_wp2_with fail
  go_ret
  exact ⟨by rw [HF.out]; rfl, B0.out⟩
 have k3 : decide ((6 : Int) < D.hor) = false := by simpa using g3
 have hw4 : IntKind.i64.wrap (D.hor * (n1 : Int)) = D.hor * n1 := by
  have h7 : n1 = 1 ∨ n1 = 2 ∨ n1 = 3 := by omega
  rcases h7 with rfl | rfl | rfl <;> exact IntWalk.i64_in _ (by omega)
 by_cases g4 : (6 : Int) < D.hor * n1
 ·have k4 : decide ((6 : Int) < D.hor * n1) = true := by simpa using g4
  have HF : Hid (u = false) := hide (Bool.eq_false_iff.2 (fun h => by
   have h5 := headB_iff.1 (HU.out.trans h)
   have h6 := h5.h6; rw [<- L1.out] at h6; omega))
  go_wp2_with fail
  go_ret
  exact ⟨by rw [HF.out]; rfl, B0.out⟩
 have k4 : decide ((6 : Int) < D.hor * n1) = false := by simpa using g4
 by_cases g5 : D.now < 0
 ·have k5 : decide (D.now < 0) = true := by simpa using g5
  have HF : Hid (u = false) := hide (Bool.eq_false_iff.2 (fun h => by
   have h5 := headB_iff.1 (HU.out.trans h)
   have h6 := h5.t0; have := L2.out; omega))
  go_wp2_with fail
  go_ret
  exact ⟨by rw [HF.out]; rfl, B0.out⟩
 have k5 : decide (D.now < 0) = false := by simpa using g5
 by_cases g6 : (40 : Int) < D.now
 ·have k6 : decide ((40 : Int) < D.now) = true := by simpa using g6
  have HF : Hid (u = false) := hide (Bool.eq_false_iff.2 (fun h => by
   have h5 := headB_iff.1 (HU.out.trans h)
   have h6 := h5.t40; have := L2.out; omega))
  go_wp2_with fail
  go_ret
  exact ⟨by rw [HF.out]; rfl, B0.out⟩
 have k6 : decide ((40 : Int) < D.now) = false := by simpa using g6
 by_cases g7 : (40 : Int) < n2
 ·have k7 : decide ((40 : Int) < n2) = true := by simpa using g7
  have HF : Hid (u = false) := hide (Bool.eq_false_iff.2 (fun h => by
   have h5 := headB_iff.1 (HU.out.trans h)
   have h6 := h5.cl; have := L2.out; omega))
  go_wp2_with fail
  go_ret
  exact ⟨by rw [HF.out]; rfl, B0.out⟩
 have k7 : decide ((40 : Int) < n2) = false := by simpa using g7
 have GA : Hid (1 <= n1 /\ n1 <= 3 /\ 1 <= D.hor /\ D.hor * n1 <= 6 /\ 0 <= D.now /\ D.now <= 40 /\ n2 <= 40) := hide (by omega)
 clear HH HN
 have hn13 : n1 <= 3 := GA.out.2.1
 have hn40 : n2 <= 40 := GA.out.2.2.2.2.2.2
 clear g0 g1 g2 g3 g4 g5 g6 g7
 go_wp2_with fail
 clear k0 k1 k2 k3 k4 k5 k6 k7 hw4 d0 d1 d2 d3 d4 d5
 go_loopw [4] (fun i wr => ∃ j : Nat, j <= n1 /\ i = .int .i64 (j : Int) /\ Hid (∀ (i : Nat) x, i < j -> D.items[i]? = some x -> x.okB = true) /\ Later W0 wr) (fun i _ => (n1 - intOf i).toNat)
 case atStart => exact ⟨0, by omega, rfl, hide fun i x hi => by omega, Later.refl _⟩
 case round =>
  obtain ⟨j, hj, rfl, hpre, hL⟩ := hrel
  by_cases hjn : j < n1
  ·obtain ⟨x, hx⟩ : ∃ x, D.items[j]? = some x := ⟨D.items[j]'(by have := L1.out; omega), List.getElem?_eq_getElem _⟩
   obtain ⟨b1, off1, rfl, e1, e2, e3, x0, x1, x2, x3, x4, x5, x6, x7, x8, x9, x10, x11, m1, m2, m3⟩ := (H.out.later (B0.out.trans hL)).its.at12 hx
   have HX := hide hx; have M1 := hide m1; have M2 := hide m2; have M3 := hide m3; have HL := hide hL
   obtain ⟨u1, hu1⟩ : ∃ u, costB x.s x.sf = u := ⟨_, rfl⟩
   obtain ⟨u2, hu2⟩ : ∃ u, costB x.h x.hf = u := ⟨_, rfl⟩
   obtain ⟨u3, hu3⟩ : ∃ u, costB x.b x.bf = u := ⟨_, rfl⟩
   have HOK : Hid (x.okB = (u1 && (u2 && u3))) := hide (by unfold PItem.okB; rw [hu1, hu2, hu3])
   have U1 := hide hu1; have U2 := hide hu2; have U3 := hide hu3
   have hj0 : (0 : Int) <= (j : Int) := by omega
   have hj1 : (j : Int) < n1 := by omega
   clear hx m1 m2 m3 hL hu1 hu2 hu3
   have r_d := R0.out.later HL.out
   have d0 := r_d.cell (i := 0) rfl; have d1 := r_d.cell (i := 1) rfl; have d2 := r_d.cell (i := 2) rfl; have d3 := r_d.cell (i := 3) rfl; have d4 := r_d.cell (i := 4) rfl; have d5 := r_d.cell (i := 5) rfl
   clear r_d
   have HNO : Hid (x.okB = false -> u = false) := hide (fun hk => Bool.eq_false_iff.2 (fun h => by
    have h5 := headB_iff.1 (HU.out.trans h)
    have h6 := h5.items x (List.mem_of_getElem? HX.out)
    rw [hk] at h6; cases h6))
   go_wp2_with fail
   ((with_reducible refine (rcost_calls wr _ x.s x.sf M1.out).mono ?_); rintro e w2 ⟨rfl, b2⟩)
   rw [U1.out]
   have HB2 := hide b2
   have x0 := Later.cell b2 x0; have x1 := Later.cell b2 x1; have x2 := Later.cell b2 x2; have x3 := Later.cell b2 x3; have x4 := Later.cell b2 x4; have x5 := Later.cell b2 x5; have x6 := Later.cell b2 x6; have x7 := Later.cell b2 x7; have x8 := Later.cell b2 x8; have x9 := Later.cell b2 x9; have x10 := Later.cell b2 x10; have x11 := Later.cell b2 x11
   clear b2 d0 d1 d2 d3 d4 d5
   have r_d := R0.out.later (HL.out.trans HB2.out)
   have d0 := r_d.cell (i := 0) rfl; have d1 := r_d.cell (i := 1) rfl; have d2 := r_d.cell (i := 2) rfl; have d3 := r_d.cell (i := 3) rfl; have d4 := r_d.cell (i := 4) rfl; have d5 := r_d.cell (i := 5) rfl
   clear r_d
   cases u1 with
   | false =>
     have HF : Hid (u = false) := hide (HNO.out (by rw [HOK.out]; rfl))
     go_wp2_with fail
     go_ret
     exact ⟨by rw [HF.out]; rfl, B0.out.trans (HL.out.trans HB2.out)⟩
   | true =>
   go_wp2_with fail
   ((with_reducible refine (rcost_calls w2 _ x.h x.hf (M2.out.later HB2.out)).mono ?_); rintro e w3 ⟨rfl, b3⟩)
   rw [U2.out]
   have HB3 := hide (HB2.out.trans b3)
   have x0 := Later.cell b3 x0; have x1 := Later.cell b3 x1; have x2 := Later.cell b3 x2; have x3 := Later.cell b3 x3; have x4 := Later.cell b3 x4; have x5 := Later.cell b3 x5; have x6 := Later.cell b3 x6; have x7 := Later.cell b3 x7; have x8 := Later.cell b3 x8; have x9 := Later.cell b3 x9; have x10 := Later.cell b3 x10; have x11 := Later.cell b3 x11
   clear b3 d0 d1 d2 d3 d4 d5
   have r_d := R0.out.later (HL.out.trans HB3.out)
   have d0 := r_d.cell (i := 0) rfl; have d1 := r_d.cell (i := 1) rfl; have d2 := r_d.cell (i := 2) rfl; have d3 := r_d.cell (i := 3) rfl; have d4 := r_d.cell (i := 4) rfl; have d5 := r_d.cell (i := 5) rfl
   clear r_d
   cases u2 with
   | false =>
     have HF : Hid (u = false) := hide (HNO.out (by rw [HOK.out]; rfl))
     go_wp2_with fail
     go_ret
     exact ⟨by rw [HF.out]; rfl, B0.out.trans (HL.out.trans HB3.out)⟩
   | true =>
   go_wp2_with fail
   ((with_reducible refine (rcost_calls w3 _ x.b x.bf (M3.out.later HB3.out)).mono ?_); rintro e w4 ⟨rfl, b4⟩)
   rw [U3.out]
   have HB4 := hide (HB3.out.trans b4)
   clear b4 d0 d1 d2 d3 d4 d5 x0 x1 x2 x3 x4 x5 x6 x7 x8 x9 x10 x11
   cases u3 with
   | false =>
     have HF : Hid (u = false) := hide (HNO.out (by rw [HOK.out]; rfl))
     go_wp2_with fail
     go_ret
     exact ⟨by rw [HF.out]; rfl, B0.out.trans (HL.out.trans HB4.out)⟩
   | true =>
     have HN : Hid (∀ (i : Nat) x, i < j + 1 -> D.items[i]? = some x -> x.okB = true) := hide fun i y hi hy => by
      by_cases hij : i < j
      ·exact hpre.out i y hij hy
      ·obtain rfl : i = j := by omega
       rw [HX.out] at hy; injection hy with hy; rw [<- hy, HOK.out]; rfl
     go_wp2_with fail
     exact ⟨⟨j+1, by omega, by go_num, HN, HL.out.trans HB4.out⟩, by simp [intOf]; omega⟩
  ·have HI : Hid (∀ x ∈ D.items, x.okB = true) := hide (fun x hx => by
    obtain ⟨i, hi⟩ := List.getElem?_of_mem hx
    exact hpre.out i x (by have := (List.getElem?_eq_some_iff.1 hi).1; have := L1.out; omega) hi)
   have HL := hide hL
   clear hpre hL
   have hj1 : ¬ (j : Int) < n1 := by omega
   go_wp2_with fail
   go_loopw [5] (fun i wr => ∃ j : Nat, j <= n2 /\ i = .int .i64 (j : Int) /\ Hid (∀ (i : Nat) x, i < j -> D.caps[i]? = some x -> 0 <= x /\ x <= 100) /\ Later W0 wr) (fun i _ => (n2 - intOf i).toNat)
   case atStart => exact ⟨0, by omega, rfl, hide fun i x hi => by omega, HL.out⟩
   case round =>
    clear hj1 hjn hj
    obtain ⟨k, hj, rfl, hpre, hL2⟩ := hrel
    have HL2 := hide hL2
    clear hL2
    have r_d := R0.out.later HL2.out
    have d0 := r_d.cell (i := 0) rfl; have d1 := r_d.cell (i := 1) rfl; have d2 := r_d.cell (i := 2) rfl; have d3 := r_d.cell (i := 3) rfl; have d4 := r_d.cell (i := 4) rfl; have d5 := r_d.cell (i := 5) rfl
    clear r_d
    by_cases hjn : k < n2
    ·obtain ⟨x, hx⟩ : ∃ x, D.caps[k]? = some x := ⟨D.caps[k]'(by have := L2.out; omega), List.getElem?_eq_getElem _⟩
     obtain ⟨b1, off1, rfl, x0⟩ := (H.out.later (B0.out.trans HL2.out)).caps.at1 hx
     have HX := hide hx
     have hfx := HC.out x (List.mem_of_getElem? hx)
     unfold IFit at hfx
     have hj0 : (0 : Int) <= (k : Int) := by omega
     have hj1 : (k : Int) < n2 := by omega
     clear hx
     have HNO : Hid (¬ (0 <= x /\ x <= 100) -> u = false) := hide (fun hk => Bool.eq_false_iff.2 (fun h => hk ((headB_iff.1 (HU.out.trans h)).caps x (List.mem_of_getElem? HX.out))))
     by_cases g1 : x < 0
     ·have t1 : decide (x < 0) = true := by simpa using g1
      have HF : Hid (u = false) := hide (HNO.out (by omega))
      go_wp2_with fail
      go_ret
      exact ⟨by rw [HF.out]; rfl, B0.out.trans HL2.out⟩
     ·have t1 : decide (x < 0) = false := by simpa using g1
      by_cases g2 : 100 < x
      ·have t2 : decide (100 < x) = true := by simpa using g2
       have HF : Hid (u = false) := hide (HNO.out (by omega))
       go_wp2_with fail
       go_ret
       exact ⟨by rw [HF.out]; rfl, B0.out.trans HL2.out⟩
      ·have t2 : decide (100 < x) = false := by simpa using g2
       have HN : Hid (∀ (i : Nat) x, i < k + 1 -> D.caps[i]? = some x -> 0 <= x /\ x <= 100) := hide fun i y hi hy => by
        by_cases hij : i < k
        ·exact hpre.out i y hij hy
        ·obtain rfl : i = k := by omega
         rw [HX.out] at hy; injection hy with hy; rw [<- hy]; omega
       clear g1 g2
       go_wp2_with fail
       exact ⟨⟨k+1, by omega, by go_num, HN, HL2.out⟩, by simp [intOf]; omega⟩
    ·have hj1 : ¬ (k : Int) < n2 := by omega
     have HF : Hid (u = true) := hide (by
      rw [<- HU.out, headB_iff]
      have g := GA.out
      have h1 := L1.out; have h2 := L2.out
      rw [h1] at g
      exact ⟨HI.out, fun x hx => by
       obtain ⟨i, hi⟩ := List.getElem?_of_mem hx
       exact hpre.out i x (by have := (List.getElem?_eq_some_iff.1 hi).1; omega) hi, g.1, g.2.1, g.2.2.1, g.2.2.2.1, g.2.2.2.2.1, g.2.2.2.2.2.1, by omega⟩)
     clear hpre
     go_wp2_with fail
     go_ret
     exact ⟨by rw [HF.out]; rfl, B0.out.trans HL2.out⟩
end Go.Proofs.YtncbebfhakcgdaaGreat
