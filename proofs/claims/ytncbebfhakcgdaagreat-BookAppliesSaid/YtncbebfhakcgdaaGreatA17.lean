/- Plans: capacities, what is committed, due, and there (the reference). -/
import Derived.Test.YtncbebfhakcgdaaGreatA16
import Derived.Test.YtncbebfhakcgdaaGreatA5
set_option linter.unusedVariables false
set_option linter.unusedSimpArgs false
set_option maxRecDepth 100000
namespace Go.Proofs.YtncbebfhakcgdaaGreat
open Go.RowKit Go.Shelf
attribute [local go_sem ↓] Go.wp_at_zero Go.wp_at_succ
set_option maxHeartbeats 2000000 in
theorem rcap_calls (w : World) (A1 A2 A3 A4 : Option Addr) (n1 n2 n3 n4 c1 c2 c3 c4 : Nat) (D : PBook) (h : BookIn w (.slice A1 n1 c1) (.slice A2 n2 c2) (.slice A3 n3 c3) (.slice A4 n4 c4) D) (period : Int) :
 Calls Tryz.prog 26 #[.agg #[.slice A1 n1 c1, .int .i64 D.hor, .int .i64 D.now, .slice A2 n2 c2, .slice A3 n3 c3, .slice A4 n4 c4], .int .i64 period] w (RetV w (.int .i64 (capV D period))) := by
 have H := hide h
 obtain ⟨l1, l2, l3, l4⟩ := h.lens
 have hn2 : n2 <= 1000 := by have := h.cl; omega
 obtain ⟨u0, hu0⟩ : ∃ u, mayB D = u := ⟨_, rfl⟩
 obtain ⟨z, hz⟩ : ∃ z, capV D period = z := ⟨_, rfl⟩
 rw [hz]
 have HU0 := hide hu0; have HZ := hide hz; have L2 := hide l2
 clear h hu0 hz l1 l2 l3 l4
 obtain ⟨W0, hW0⟩ : ∃ W0, W0 = (w.alloc (Obj.cells #[Value.slice A1 n1 c1, Value.int .i64 D.hor, Value.int .i64 D.now, Value.slice A2 n2 c2, Value.slice A3 n3 c3, Value.slice A4 n4 c4] 27)) := ⟨_, rfl⟩
 obtain ⟨hb0, r0, hsz0⟩ := boxes1 w [.slice A1 n1 c1, .int .i64 D.hor, .int .i64 D.now, .slice A2 n2 c2, .slice A3 n3 c3, .slice A4 n4 c4] 27 hW0
 have B0 := hide hb0; have HW0 := hide hW0
 have R0 := hide r0
 clear hb0 hW0 hsz0 r0
 go_enter Tryz.func26, Tryz.ntmps26
 go_upto_region 1 with fail
 rw [<- HW0.out]
 have r_d := R0.out.later (Later.refl W0)
 have d0 := r_d.cell (i := 0) rfl; have d1 := r_d.cell (i := 1) rfl; have d2 := r_d.cell (i := 2) rfl; have d3 := r_d.cell (i := 3) rfl; have d4 := r_d.cell (i := 4) rfl; have d5 := r_d.cell (i := 5) rfl
 clear r_d
 go_wp2_with fail
 ((with_reducible refine (rmay_calls _ _ _ _ _ _ _ _ _ _ _ _ _ D (H.out.later B0.out) u0 HU0.out).mono ?_); rintro e w1 ⟨rfl, b1⟩)
 have HL1 := hide b1
 clear b1 d0 d1 d2 d3 d4 d5
 have r_d := R0.out.later HL1.out
 have d0 := r_d.cell (i := 0) rfl; have d1 := r_d.cell (i := 1) rfl; have d2 := r_d.cell (i := 2) rfl; have d3 := r_d.cell (i := 3) rfl; have d4 := r_d.cell (i := 4) rfl; have d5 := r_d.cell (i := 5) rfl
 clear r_d
 cases u0 with
 | false =>
   have HF : Hid (z = 0) := hide (by rw [<- HZ.out]; unfold capV; rw [if_neg (by rw [HU0.out]; simp)])
   go_wp2_with fail
   go_ret
   exact ⟨by first | rfl | (rw [HF.out]; rfl), B0.out.trans HL1.out⟩
 | true =>
 by_cases g1 : period < 0
 ·have k1 : decide (period < 0) = true := by simpa using g1
  have HF : Hid (z = 0) := hide (by rw [<- HZ.out]; unfold capV; rw [if_neg (by rintro ⟨-, h1, h2⟩; omega)])
  go_wp2_with fail
  go_ret
  exact ⟨by first | rfl | (rw [HF.out]; rfl), B0.out.trans HL1.out⟩
 have k1 : decide (period < 0) = false := by simpa using g1
 by_cases g2 : (n2 : Int) <= period
 ·have k2 : decide ((n2 : Int) <= period) = true := by simpa using g2
  have HF : Hid (z = 0) := hide (by rw [<- HZ.out]; unfold capV; rw [if_neg (by rintro ⟨-, h1, h2⟩; have := L2.out; omega)])
  go_wp2_with fail
  go_ret
  exact ⟨by first | rfl | (rw [HF.out]; rfl), B0.out.trans HL1.out⟩
 obtain ⟨k, rfl⟩ := Int.eq_ofNat_of_zero_le (show 0 <= period by omega)
 obtain ⟨x, hx⟩ : ∃ x, D.caps[k]? = some x := ⟨D.caps[k]'(by have := L2.out; omega), List.getElem?_eq_getElem _⟩
 have HF : Hid (x = z) := hide (by
  rw [<- HZ.out]; unfold capV; rw [if_pos ⟨HU0.out, by omega, by have := L2.out; omega⟩, Int.toNat_natCast, List.getD_eq_getElem?_getD, hx]; rfl)
 obtain ⟨b1, off1, rfl, x1⟩ := (H.out.later (B0.out.trans HL1.out)).caps.at1 hx
 have hk1 : (k : Int) < n2 := by omega
 have hk0 : (0 : Int) <= (k : Int) := by omega
 clear g1 g2 k1 hx
 go_wp2_with fail
 go_ret
 exact ⟨by first | rfl | (rw [HF.out]; rfl), B0.out.trans HL1.out⟩
set_option maxHeartbeats 4000000 in
theorem rfixed_calls (w : World) (A1 A2 A3 A4 : Option Addr) (n1 n2 n3 n4 c1 c2 c3 c4 : Nat) (D : PBook) (h : BookIn w (.slice A1 n1 c1) (.slice A2 n2 c2) (.slice A3 n3 c3) (.slice A4 n4 c4) D) (it p : Int) :
 Calls Tryz.prog 17 #[.agg #[.slice A1 n1 c1, .int .i64 D.hor, .int .i64 D.now, .slice A2 n2 c2, .slice A3 n3 c3, .slice A4 n4 c4], .int .i64 it, .int .i64 p] w (RetO w (fixedV D it p)) := by
 have H := hide h
 obtain ⟨l1, l2, l3, l4⟩ := h.lens
 have hn3 : n3 <= 1000 := by have := h.ol; omega
 have hn4 : n4 <= 1000 := by have := h.ml; omega
 obtain ⟨u0, hu0⟩ : ∃ u, mayB D = u := ⟨_, rfl⟩
 obtain ⟨z, hz⟩ : ∃ z, fixedV D it p = z := ⟨_, rfl⟩
 rw [hz]
 have HU0 := hide hu0; have HZ := hide hz; have L3 := hide l3; have L4 := hide l4
 clear h hu0 hz l1 l2 l3 l4
 obtain ⟨W0, hW0⟩ : ∃ W0, W0 = (w.alloc (Obj.cells #[Value.slice A1 n1 c1, Value.int .i64 D.hor, Value.int .i64 D.now, Value.slice A2 n2 c2, Value.slice A3 n3 c3, Value.slice A4 n4 c4] 27)) := ⟨_, rfl⟩
 obtain ⟨hb0, r0, hsz0⟩ := boxes1 w [.slice A1 n1 c1, .int .i64 D.hor, .int .i64 D.now, .slice A2 n2 c2, .slice A3 n3 c3, .slice A4 n4 c4] 27 hW0
 have B0 := hide hb0; have HW0 := hide hW0
 have R0 := hide r0
 clear hb0 hW0 hsz0 r0
 go_enter Tryz.func17, Tryz.ntmps17
 go_upto_region 1 with fail
 rw [<- HW0.out]
 have r_d := R0.out.later (Later.refl W0)
 have d0 := r_d.cell (i := 0) rfl; have d1 := r_d.cell (i := 1) rfl; have d2 := r_d.cell (i := 2) rfl; have d3 := r_d.cell (i := 3) rfl; have d4 := r_d.cell (i := 4) rfl; have d5 := r_d.cell (i := 5) rfl
 clear r_d
 go_wp2_with fail
 clear d0 d1 d2 d3 d4 d5
 go_loopw [8] (fun i wr => ∃ j : Nat, j <= n4 /\ i = .int .i64 (j : Int) /\ Hid (∀ (i : Nat) x, i < j -> D.mks[i]? = some x -> decide (x.item = it /\ x.period = p) = false) /\ Later W0 wr) (fun i _ => (n4 - intOf i).toNat)
 case atStart => exact ⟨0, by omega, rfl, hide fun i r hi => by omega, Later.refl _⟩
 case round =>
  obtain ⟨j, hj, rfl, hpre, hL⟩ := hrel
  have HL := hide hL
  clear hL
  have r_d := R0.out.later HL.out
  have d0 := r_d.cell (i := 0) rfl; have d1 := r_d.cell (i := 1) rfl; have d2 := r_d.cell (i := 2) rfl; have d3 := r_d.cell (i := 3) rfl; have d4 := r_d.cell (i := 4) rfl; have d5 := r_d.cell (i := 5) rfl
  clear r_d
  by_cases hjn : j < n4
  ·obtain ⟨x, hx⟩ : ∃ x, D.mks[j]? = some x := ⟨D.mks[j]'(by have := L4.out; omega), List.getElem?_eq_getElem _⟩
   have HX := hide hx
   have hj0 : (0 : Int) <= (j : Int) := by omega
   have hj1 : (j : Int) < n4 := by omega
   clear hx
   go_wp2_with fail
   ((with_reducible refine (rmay_calls _ _ _ _ _ _ _ _ _ _ _ _ _ D (H.out.later (B0.out.trans HL.out)) u0 HU0.out).mono ?_); rintro e w1 ⟨rfl, b1⟩)
   have HL1 := hide (HL.out.trans b1)
   clear b1 d0 d1 d2 d3 d4 d5
   have r_d := R0.out.later HL1.out
   have d0 := r_d.cell (i := 0) rfl; have d1 := r_d.cell (i := 1) rfl; have d2 := r_d.cell (i := 2) rfl; have d3 := r_d.cell (i := 3) rfl; have d4 := r_d.cell (i := 4) rfl; have d5 := r_d.cell (i := 5) rfl
   clear r_d
   cases u0 with
   | false =>
     have HF : Hid (z = none) := hide (by rw [<- HZ.out]; unfold fixedV; rw [if_neg (by rw [HU0.out]; simp)])
     go_wp2_with fail
     go_ret2
     exact ⟨by rw [HF.out]; rfl, B0.out.trans HL1.out⟩
   | true =>
   obtain ⟨b1, off1, rfl, x0, x1, x2⟩ := (H.out.later (B0.out.trans HL1.out)).mks.at3 HX.out
   by_cases g1 : x.item = it
   ·have t1 : (x.item == it) = true := by simpa using g1
    by_cases g2 : x.period = p
    ·have t2 : (x.period == p) = true := by simpa using g2
     have HF : Hid (z = some x.qty) := hide (by
      rw [<- HZ.out]; unfold fixedV; rw [if_pos HU0.out]
      rcases firstX_find (.inr ⟨j, x, rfl, HX.out, by simp [g1, g2], hpre.out⟩ : FirstX (fun x : PMk => decide (x.item = it /\ x.period = p)) D.mks j) with ⟨h1, -⟩ | ⟨i, y, h1, -, h2, h3⟩
      ·omega
      ·obtain rfl : i = j := by omega
       rw [HX.out] at h2; injection h2 with h2
       rw [h3, <- h2]; rfl)
     clear g1 g2
     go_wp2_with fail
     go_ret2
     exact ⟨by rw [HF.out]; rfl, B0.out.trans HL1.out⟩
    ·have t2 : (x.period == p) = false := by simpa using g2
     have HN : Hid (∀ (i : Nat) x, i < j + 1 -> D.mks[i]? = some x -> decide (x.item = it /\ x.period = p) = false) := hide fun i y hi hy => by
      by_cases hij : i < j
      ·exact hpre.out i y hij hy
      ·obtain rfl : i = j := by omega
       rw [HX.out] at hy; injection hy with hy; rw [<- hy]; simp [g2]
     clear g1 g2
     go_wp2_with fail
     exact ⟨⟨j+1, by omega, by go_num, HN, HL1.out⟩, by simp [intOf]; omega⟩
   ·have t1 : (x.item == it) = false := by simpa using g1
    have HN : Hid (∀ (i : Nat) x, i < j + 1 -> D.mks[i]? = some x -> decide (x.item = it /\ x.period = p) = false) := hide fun i y hi hy => by
     by_cases hij : i < j
     ·exact hpre.out i y hij hy
     ·obtain rfl : i = j := by omega
      rw [HX.out] at hy; injection hy with hy; rw [<- hy]; simp [g1]
    clear g1
    go_wp2_with fail
    exact ⟨⟨j+1, by omega, by go_num, HN, HL1.out⟩, by simp [intOf]; omega⟩
  ·have HF : Hid (z = none) := hide (by
    rw [<- HZ.out]; unfold fixedV
    split
    ·rw [Option.map_eq_none_iff, List.find?_eq_none]
     intro x hx
     obtain ⟨i, hi⟩ := List.getElem?_of_mem hx
     rw [hpre.out i x (by have := (List.getElem?_eq_some_iff.1 hi).1; have := L4.out; omega) hi]; simp
    ·rfl)
   have hj1 : ¬ (j : Int) < n4 := by omega
   clear hpre
   go_wp2_with fail
   go_ret2
   exact ⟨by rw [HF.out]; rfl, B0.out.trans HL.out⟩
end Go.Proofs.YtncbebfhakcgdaaGreat
namespace Go.Proofs.YtncbebfhakcgdaaGreat
open Go.RowKit Go.Shelf
attribute [local go_sem ↓] Go.wp_at_zero Go.wp_at_succ
structure GridIn (w : World) (v : Value) (t : List (List Int)) : Prop where
 grid : Grid w v t
 len : t.length <= 1000
 lens : ∀ r ∈ t, r.length <= 1000
 fit : ∀ r ∈ t, ∀ z ∈ r, -9223372036854775808 <= z /\ z < 9223372036854775808
theorem GridIn.later {w w' : World} {v : Value} {t : List (List Int)} (h : GridIn w v t) (hb : Later w w') : GridIn w' v t := { h with grid := h.grid.later hb }
theorem Sq.len_ {α : Type} {m : Nat} {enc : α -> List Value} {w : World} {A : Option Addr} {n c : Nat} {l : List α} (h : Sq m enc w (.slice A n c) l) : n = l.length := by
 obtain ⟨_, _, _, e, hn, -, -, -⟩ := h.form
 injection e with _ e _
 omega
end Go.Proofs.YtncbebfhakcgdaaGreat
namespace Go.Proofs.YtncbebfhakcgdaaGreat
open Go.RowKit Go.Shelf
attribute [local go_sem ↓] Go.wp_at_zero Go.wp_at_succ
end Go.Proofs.YtncbebfhakcgdaaGreat
namespace Go.Proofs.YtncbebfhakcgdaaGreat
open Go.RowKit Go.Shelf
attribute [local go_sem ↓] Go.wp_at_zero Go.wp_at_succ
end Go.Proofs.YtncbebfhakcgdaaGreat
namespace Go.Proofs.YtncbebfhakcgdaaGreat
open Go.RowKit Go.Shelf
attribute [local go_sem ↓] Go.wp_at_zero Go.wp_at_succ
end Go.Proofs.YtncbebfhakcgdaaGreat
namespace Go.Proofs.YtncbebfhakcgdaaGreat
open Go.RowKit Go.Shelf
attribute [local go_sem ↓] Go.wp_at_zero Go.wp_at_succ
def Stp (G : Nat) (w w' : World) : Prop := ∃ w6, Later w w6 /\ Only G w6 w'
theorem Stp.later {G : Nat} {a w w' : World} (h : Later a w) (s : Stp G w w') (hg : a.heap.size <= G) : Later a w' := by
 obtain ⟨w6, h1, h2⟩ := s; exact (h.trans h1).only h2 hg
theorem Stp.row {G g : Nat} {w w' : World} {t : TypeId} {cs : List Value} (s : Stp G w w') (r : Row w g t cs) (hg : g ≠ G) : Row w' g t cs := by
 obtain ⟨w6, h1, h2⟩ := s; exact (r.later h1).only h2 hg
def SumAt (w : World) (lo G : Nat) (s : Rat) (k : Nat) : Prop := ∃ ss As ns cs As' ns' cs', Row w G 67 [.bool ss, .slice As ns cs, .bool false, .slice As' ns' cs'] /\ On w (fun b => lo <= b /\ b ≠ G) (fun W => OwnR W 0 (.agg #[.bool ss, .slice As ns cs, .bool false, .slice As' ns' cs']) s) /\ Sized s k
theorem SumAt.later {w w' : World} {lo G : Nat} {s : Rat} {k : Nat} (h : SumAt w lo G s k) (hb : Later w w') : SumAt w' lo G s k := by
 obtain ⟨ss, As, ns, cs, As', ns', cs', h1, h2, h3⟩ := h
 exact ⟨ss, As, ns, cs, As', ns', cs', h1.later hb, h2.later hb, h3⟩
theorem SumAt.mono {w : World} {lo G : Nat} {s : Rat} {k m : Nat} (h : SumAt w lo G s k) (hm : k <= m) : SumAt w lo G s m := by
 obtain ⟨ss, As, ns, cs, As', ns', cs', h1, h2, h3⟩ := h
 exact ⟨ss, As, ns, cs, As', ns', cs', h1, h2, h3.mono hm⟩
theorem SumAt.lt {w : World} {lo G : Nat} {s : Rat} {k : Nat} (h : SumAt w lo G s k) : G < w.heap.size := by
 obtain ⟨ss, As, ns, cs, As', ns', cs', h1, -⟩ := h; exact h1.lt
end Go.Proofs.YtncbebfhakcgdaaGreat
namespace Go.Proofs.YtncbebfhakcgdaaGreat
open Go.RowKit Go.Shelf
attribute [local go_sem ↓] Go.wp_at_zero Go.wp_at_succ
theorem ENum.raw {k : Nat} {w : World} {v : Value} {q : Rat} {f : Bool} (h : ENum k w v q f) : RawR w v q k := h.1
def item0 : PItem := ⟨0, 0, 0, true, true, true⟩
end Go.Proofs.YtncbebfhakcgdaaGreat
