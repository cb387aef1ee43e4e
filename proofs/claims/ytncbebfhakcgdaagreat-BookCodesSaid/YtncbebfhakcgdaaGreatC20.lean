/- Books: a book of memory of its own. -/
import Derived.Test.YtncbebfhakcgdaaGreatC19
import Derived.Test.YtncbebfhakcgdaaGreatC7
import Derived.ArgAppend
import Derived.Laws.CopyRow
import Derived.Lib.SliceRun
set_option linter.unusedVariables false
set_option linter.unusedSimpArgs false
set_option maxRecDepth 100000
namespace Go.Proofs.YtncbebfhakcgdaaGreat
open Go.RowKit Go.Shelf
attribute [local go_sem ↓] Go.wp_at_zero Go.wp_at_succ
theorem own_form {w : World} {base : Nat} {e : TypeId} {size n : Nat} {v : Value} {xs : List Value} (h : w.ownsRow base e size v n xs) : ∃ A c, v = .slice A n c := by
 obtain ⟨-, h⟩ := h
 rcases h with ⟨rfl, rfl⟩ | ⟨g, cap, cur, rfl, -⟩
 ·exact ⟨none, 0, rfl⟩
 ·exact ⟨_, cap, rfl⟩
structure BookFit (D : PBook) : Prop where
 il : D.items.length <= 1000
 cl : D.caps.length <= 1000
 ol : D.ords.length <= 1000
 ml : D.mks.length <= 1000
 hfit : IFit D.hor
 nfit : IFit D.now
 cfit : ∀ z ∈ D.caps, IFit z
 ofit : ∀ o ∈ D.ords, o.fit
 mfit : ∀ x ∈ D.mks, x.fit
theorem BookIn.fit {w : World} {vI vC vO vM : Value} {D : PBook} (h : BookIn w vI vC vO vM D) : BookFit D := ⟨h.il, h.cl, h.ol, h.ml, h.hfit, h.nfit, h.cfit, h.ofit, h.mfit⟩
theorem ifit_small {z : Int} (h : 0 <= z /\ z <= 1000000) : IFit z := by unfold IFit; omega
theorem fit_of_may {D : PBook} (h : MayP D) : BookFit D := by
 have hh := h.head
 have := hh.n1; have := hh.n3; have := hh.h1; have h6 := hh.h6; have := hh.t0; have := hh.t40; have := hh.cl; have := h.ol; have := h.ml
 refine ⟨by omega, by omega, by omega, by omega, ifit_small ⟨by omega, ?_⟩, ifit_small ⟨by omega, by omega⟩, fun z hz => ifit_small (by have := hh.caps z hz; omega), fun o ho => ?_, fun x hx => ?_⟩
 ·have h7 : D.hor * 1 <= D.hor * (D.items.length : Int) := Int.mul_le_mul_of_nonneg_left (by omega) (by omega)
  omega
 ·have := h.ords o ho; unfold POrd.okP at this; unfold POrd.fit IFit; omega
 ·have := h.mks x hx; unfold PMk.okP at this; unfold PMk.fit IFit; omega
structure OwnB (w0 w : World) (vI vC vO vM : Value) (D : PBook) : Prop where
 lt : Later w0 w
 its : ∃ es, ItsOf 12 w0 es D.items /\ w.ownsRow w0.heap.size 69 12 vI D.items.length (es.flatMap cellsI)
 caps : w.ownsRow w0.heap.size 3 1 vC D.caps.length (D.caps.flatMap iCells)
 ords : w.ownsRow w0.heap.size 29 4 vO D.ords.length (D.ords.flatMap oCells)
 mks : w.ownsRow w0.heap.size 43 3 vM D.mks.length (D.mks.flatMap mCells)
 aIC : ApartV vI vC
 aIO : ApartV vI vO
 aIM : ApartV vI vM
 aCO : ApartV vC vO
 aCM : ApartV vC vM
 aOM : ApartV vO vM
theorem OwnB.book {w0 w : World} {vI vC vO vM : Value} {D : PBook} (h : OwnB w0 w vI vC vO vM D) (f : BookFit D) : BookIn w vI vC vO vM D := by
 obtain ⟨es, h1, h2⟩ := h.its
 exact ⟨Its.of_own h2 (h1.later h.lt), Sq.of_own iCells_ln h.caps, Sq.of_own oCells_len h.ords, Sq.of_own mCells_len h.mks, f.il, f.cl, f.ol, f.ml, f.hfit, f.nfit, f.cfit, f.ofit, f.mfit⟩
theorem OwnB.later {w0 w w' : World} {vI vC vO vM : Value} {D : PBook} (h : OwnB w0 w vI vC vO vM D) (hb : Later w w') : OwnB w0 w' vI vC vO vM D := by
 obtain ⟨es, h1, h2⟩ := h.its
 exact { h with lt := h.lt.trans hb, its := ⟨es, h1, own_later h2 hb⟩, caps := own_later h.caps hb, ords := own_later h.ords hb, mks := own_later h.mks hb }
set_option maxHeartbeats 8000000 in
theorem own_calls (w : World) (w00 : World) (A1 A2 A3 A4 : Option Addr) (n1 n2 n3 n4 c1 c2 c3 c4 : Nat) (D : PBook) (h : BookIn w00 (.slice A1 n1 c1) (.slice A2 n2 c2) (.slice A3 n3 c3) (.slice A4 n4 c4) D) (hl : Later w00 w) :
 Calls Tryz.prog 32 #[.agg #[.slice A1 n1 c1, .int .i64 D.hor, .int .i64 D.now, .slice A2 n2 c2, .slice A3 n3 c3, .slice A4 n4 c4]] w (fun e w' => ∃ vI vC vO vM, e = .returned (.agg #[vI, .int .i64 D.hor, .int .i64 D.now, vC, vO, vM]) /\ OwnB w00 w' vI vC vO vM D) := by
 have H := hide h; have HL := hide hl
 clear h hl
 obtain ⟨W0, hW0⟩ : ∃ W0, W0 = ((w.alloc (Obj.cells #[Value.slice A1 n1 c1, Value.int .i64 D.hor, Value.int .i64 D.now, Value.slice A2 n2 c2, Value.slice A3 n3 c3, Value.slice A4 n4 c4] 27)).alloc (Obj.cells #[Value.slice none 0 0, Value.int .i64 0, Value.int .i64 0, Value.slice none 0 0, Value.slice none 0 0, Value.slice none 0 0] 27)) := ⟨_, rfl⟩
 obtain ⟨hb0, r0, r1, hsz0⟩ := boxes2 w [.slice A1 n1 c1, .int .i64 D.hor, .int .i64 D.now, .slice A2 n2 c2, .slice A3 n3 c3, .slice A4 n4 c4] [.slice none 0 0, .int .i64 0, .int .i64 0, .slice none 0 0, .slice none 0 0, .slice none 0 0] 27 27 hW0
 have B0 := hide hb0; have HW0 := hide hW0; have HSZ0 := hide hsz0
 have R0 := hide r0; have R1 := hide r1
 clear hb0 hW0 hsz0 r0 r1
 go_enter Tryz.func32, Tryz.ntmps32
 go_upto_region 1 with fail
 rw [<- HW0.out]
 have r0 := R0.out; have r1 := R1.out
 have d0 := r0.cell (i := 0) rfl; have d1 := r0.cell (i := 1) rfl; have d2 := r0.cell (i := 2) rfl; have d3 := r0.cell (i := 3) rfl; have d4 := r0.cell (i := 4) rfl; have d5 := r0.cell (i := 5) rfl
 have dz0 := r0.frozen 0; have dz1 := r0.frozen 1; have dz2 := r0.frozen 2; have dz3 := r0.frozen 3; have dz4 := r0.frozen 4; have dz5 := r0.frozen 5
 have HT1 : Hid (∀ w', Later W0 w' -> w'.cell? ⟨w.heap.size, 0, none⟩ = some (.slice A1 n1 c1) /\ w'.cell? ⟨w.heap.size, 3, none⟩ = some (.slice A2 n2 c2)) := hide fun w' hb => ⟨(r0.later hb).cell rfl, (r0.later hb).cell rfl⟩
 clear r0 r1
 have hB0 := B0.out
 have hmx : Tryz.prog.follows .mixedOrders = true := by kernel_rfl
 refine wp_region_M (fun w' => w'.cell? ⟨w.heap.size, 0, none⟩ = some (.slice A1 n1 c1) /\ w'.cell? ⟨w.heap.size, 3, none⟩ = some (.slice A2 n2 c2)) [7, 9] hmx (HT1.out _ lt_) (fun hHeld => ?_)
 refine wpAnyM_takeD (some 3) (by rfl) (i := 0) (oi := _) (v := ?_) rfl (by kernel_rfl) (by kernel_rfl) (by kernel_rfl) (by kernel_rfl) (fun _ _ _ h => h) (Or.inl ⟨by rfl, ?_⟩) (by assumption) ?_
 rotate_left
 ·intro w hSw; (try dsimp only at hSw); go_simp
  first | done | with_reducible rfl
 try simp only [Act.put, s1_, s2_, s3_]
 refine wpAnyM_takeD (some 4) (by rfl) (i := 1) (oi := _) (v := ?_) rfl (by kernel_rfl) (by kernel_rfl) (by kernel_rfl) (by kernel_rfl) (fun _ _ _ h => h) (Or.inl ⟨by rfl, ?_⟩) (by assumption) ?_
 rotate_left
 ·intro w hSw; (try dsimp only at hSw); go_simp
  first | done | with_reducible rfl
 try simp only [Act.put, s1_, s2_, s3_]
 refine wpAnyM_takeD (some 6) (by rfl) (i := 3) (oi := _) (v := ?_) rfl (by kernel_rfl) (by kernel_rfl) (by kernel_rfl) (by kernel_rfl) (fun _ _ _ h => h) (Or.inl ⟨by rfl, ?_⟩) (by assumption) ?_
 rotate_left
 ·intro w hSw; (try dsimp only at hSw); go_simp
  first | done | with_reducible rfl
 try simp only [Act.put, s1_, s2_, s3_]
 refine wpAnyM_takeD (some 7) (by rfl) (i := 4) (oi := _) (v := ?_) rfl (by kernel_rfl) (by kernel_rfl) (by kernel_rfl) (by kernel_rfl) (fun _ _ _ h => h) (Or.inl ⟨by rfl, ?_⟩) (by assumption) ?_
 rotate_left
 ·intro w hSw; (try dsimp only at hSw); go_simp
  first | done | with_reducible rfl
 try simp only [Act.put, s1_, s2_, s3_]
 refine wpAnyM_ready (rs := [2]) (by kernel_rfl) (by simp) ?_
 refine AllReadyM.held rfl (by rfl) (fun K hK => ?_) AllReadyM.nil
 go_simp
 refine (cloneT_calls _ _ (HL.out.trans lt_) 12 _ _ H.out.its H.out.il).mono ?_
 rintro e w1 ⟨v7, rfl, ⟨es, hes, o7⟩, b7⟩
 obtain ⟨A7, c7, rfl⟩ := own_form o7
 have HES := hide hes
 have l7 : Later W0 w1 := Later.trans lt_ b7
 have lw1 := hB0.trans l7
 clear b7 hes
 refine hK.out _ _ ?_ (fun hHeld => ?_)
 ·exact HT1.out _ lt_
 clear hK K
 try simp only [Act.put, s1_, s2_, s3_]
 refine wpAnyM_takeD (some 9) (by rfl) (i := 6) (oi := _) (v := ?_) rfl (by kernel_rfl) (by kernel_rfl) (by kernel_rfl) (by kernel_rfl) (fun _ _ _ h => h) (Or.inl ⟨by rfl, ?_⟩) (by assumption) ?_
 rotate_left
 ·intro w hSw; (try dsimp only at hSw); go_simp
  first | done | with_reducible rfl
 try simp only [Act.put, s1_, s2_, s3_]
 refine wpAnyM_ready (rs := [5]) (by kernel_rfl) (by simp) ?_
 refine AllReadyM.held rfl (by rfl) (fun K hK => ?_) AllReadyM.nil
 go_simp
 refine (cloneI_calls _ _ _ (H.out.caps.later (HL.out.trans lt_)) H.out.cl).mono ?_
 rintro e w2 ⟨v8, rfl, o8, b8⟩
 obtain ⟨A8, c8, rfl⟩ := own_form o8
 have l8 : Later w1 w2 := Later.trans lt_ b8
 have l9 : Later W0 w2 := Later.trans lt_ l8
 clear b8
 refine hK.out _ _ ?_ (fun hHeld => ?_)
 ·exact HT1.out _ lt_
 clear hK K
 try simp only [Act.put, s1_, s2_, s3_]
 refine wpAnyM_ready (rs := [7]) (by kernel_rfl) (by simp) ?_
 refine AllReadyM.free rfl (by rfl) (by kernel_rfl) (fun K hK => ?_) AllReadyM.nil
 have rr := R0.out.later l9
 have e0 := rr.cell (i := 0) rfl; have ez0 := rr.frozen 0
 go_simp
 refine hK.out _ _ ?_
 clear hK K
 try simp only [Act.put, s1_, s2_, s3_]
 refine wpAnyM_takeP (some 10) (by rfl) (i := 8) (oi := _) (v := ?_) rfl (by kernel_rfl) (by kernel_rfl) (by kernel_rfl) (fun _ _ _ h => h) (Or.inl ⟨by rfl, ?_⟩) ?_
 rotate_left
 ·intro w hSw; clear hSw; go_simp
  first | done | with_reducible rfl
 try simp only [Act.put, s1_, s2_, s3_]
 refine wpAnyM_ready (rs := [9]) (by kernel_rfl) (by simp) ?_
 refine AllReadyM.free rfl (by rfl) (by kernel_rfl) (fun K hK => ?_) AllReadyM.nil
 have rr3 := (R0.out.later l9).set_ 0 (.slice A7 D.items.length c7)
 have e3 := rr3.cell (i := 3) rfl; have ez3 := rr3.frozen 3
 go_simp
 refine hK.out _ _ ?_
 clear hK K
 try simp only [Act.put, s1_, s2_, s3_]
 refine wpAnyM_done (by kernel_rfl) ?_ _
 clear hHeld
 have rr9 := rr3.set_ 3 (.slice A8 D.caps.length c8)
 obtain ⟨W5, hW5⟩ : ∃ W5, W5 = ((w2.setCell ⟨w.heap.size, 0, none⟩ (.slice A7 D.items.length c7)).setCell ⟨w.heap.size, 3, none⟩ (.slice A8 D.caps.length c8)) := ⟨_, rfl⟩
 have r5 : Row W5 w.heap.size 27 [.slice A7 D.items.length c7, .int .i64 D.hor, .int .i64 D.now, .slice A8 D.caps.length c8, .slice A3 n3 c3, .slice A4 n4 c4] := by rw [hW5]; exact rr9
 have hlt : w.heap.size < W0.heap.size := by have := HSZ0.out; omega
 have q7 : W5.ownsRow W0.heap.size 69 12 (.slice A7 D.items.length c7) D.items.length (es.flatMap cellsI) := by rw [hW5]; exact ownsRow_setCell_below (ownsRow_setCell_below (own_later o7 l8) hlt _) hlt _
 have q8 : W5.ownsRow w1.heap.size 3 1 (.slice A8 D.caps.length c8) D.caps.length (D.caps.flatMap iCells) := by rw [hW5]; exact ownsRow_setCell_below (ownsRow_setCell_below o8 (by show w.heap.size < _; have := l7.size; omega) _) (by show w.heap.size < _; have := l7.size; omega) _
 have l5 : Later w W5 := by rw [hW5]; exact ((hB0.trans l9).setCell (Nat.le_refl _) _).setCell (Nat.le_refl _) _
 have r15 : Row W5 (w.heap.size + 1) 27 [.slice none 0 0, .int .i64 0, .int .i64 0, .slice none 0 0, .slice none 0 0, .slice none 0 0] := by rw [hW5]; exact ((R1.out.later l9).far (by show w.heap.size + 1 ≠ w.heap.size; omega) _).far (by show w.heap.size + 1 ≠ w.heap.size; omega) _
 have h25 : w1.heap.size <= W5.heap.size := by rw [hW5]; simp; exact l8.size
 have h15 : W0.heap.size <= w1.heap.size := l7.size
 rw [<- hW5]
 have R5 := hide r5; have Q7 := hide q7; have Q8 := hide q8; have L5 := hide l5; have R15 := hide r15; have H25 := hide h25; have H15 := hide h15; have Q7w := hide o7
 have HT2 : Hid (∀ w', Later W5 w' -> w'.cell? ⟨w.heap.size, 4, none⟩ = some (.slice A3 n3 c3) /\ w'.cell? ⟨w.heap.size, 5, none⟩ = some (.slice A4 n4 c4)) := hide fun w' hb => ⟨(r5.later hb).cell rfl, (r5.later hb).cell rfl⟩
 clear hW5 r5 hlt q7 q8 l5 r15 h25 h15 rr rr3 rr9 e0 ez0 e3 ez3 o7 o8 l7 l8 l9 lw1
 go_upto_region 2 with fail
 refine wp_region_M (fun w' => w'.cell? ⟨w.heap.size, 4, none⟩ = some (.slice A3 n3 c3) /\ w'.cell? ⟨w.heap.size, 5, none⟩ = some (.slice A4 n4 c4)) [7, 9] hmx (HT2.out _ lt_) (fun hHeld => ?_)
 refine wpAnyM_takeD (some 11) (by rfl) (i := 0) (oi := _) (v := ?_) rfl (by kernel_rfl) (by kernel_rfl) (by kernel_rfl) (by kernel_rfl) (fun _ _ _ h => h) (Or.inl ⟨by rfl, ?_⟩) (by assumption) ?_
 rotate_left
 ·intro w hSw; (try dsimp only at hSw); go_simp
  first | done | with_reducible rfl
 try simp only [Act.put, s1_, s2_, s3_]
 refine wpAnyM_takeD (some 12) (by rfl) (i := 1) (oi := _) (v := ?_) rfl (by kernel_rfl) (by kernel_rfl) (by kernel_rfl) (by kernel_rfl) (fun _ _ _ h => h) (Or.inl ⟨by rfl, ?_⟩) (by assumption) ?_
 rotate_left
 ·intro w hSw; (try dsimp only at hSw); go_simp
  first | done | with_reducible rfl
 try simp only [Act.put, s1_, s2_, s3_]
 refine wpAnyM_takeD (some 14) (by rfl) (i := 3) (oi := _) (v := ?_) rfl (by kernel_rfl) (by kernel_rfl) (by kernel_rfl) (by kernel_rfl) (fun _ _ _ h => h) (Or.inl ⟨by rfl, ?_⟩) (by assumption) ?_
 rotate_left
 ·intro w hSw; (try dsimp only at hSw); go_simp
  first | done | with_reducible rfl
 try simp only [Act.put, s1_, s2_, s3_]
 refine wpAnyM_takeD (some 15) (by rfl) (i := 4) (oi := _) (v := ?_) rfl (by kernel_rfl) (by kernel_rfl) (by kernel_rfl) (by kernel_rfl) (fun _ _ _ h => h) (Or.inl ⟨by rfl, ?_⟩) (by assumption) ?_
 rotate_left
 ·intro w hSw; (try dsimp only at hSw); go_simp
  first | done | with_reducible rfl
 try simp only [Act.put, s1_, s2_, s3_]
 refine wpAnyM_ready (rs := [2]) (by kernel_rfl) (by simp) ?_
 refine AllReadyM.held rfl (by rfl) (fun K hK => ?_) AllReadyM.nil
 go_simp
 refine (cloneO_calls _ _ _ (H.out.ords.later (HL.out.trans (Later.trans L5.out lt_))) H.out.ol).mono ?_
 rintro e w3 ⟨v9, rfl, o7, b7⟩
 obtain ⟨A9, c9, rfl⟩ := own_form o7
 have l7 : Later W5 w3 := Later.trans lt_ b7
 have lw1 := L5.out.trans l7
 clear b7
 refine hK.out _ _ ?_ (fun hHeld => ?_)
 ·exact HT2.out _ lt_
 clear hK K
 try simp only [Act.put, s1_, s2_, s3_]
 refine wpAnyM_takeD (some 17) (by rfl) (i := 6) (oi := _) (v := ?_) rfl (by kernel_rfl) (by kernel_rfl) (by kernel_rfl) (by kernel_rfl) (fun _ _ _ h => h) (Or.inl ⟨by rfl, ?_⟩) (by assumption) ?_
 rotate_left
 ·intro w hSw; (try dsimp only at hSw); go_simp
  first | done | with_reducible rfl
 try simp only [Act.put, s1_, s2_, s3_]
 refine wpAnyM_ready (rs := [5]) (by kernel_rfl) (by simp) ?_
 refine AllReadyM.held rfl (by rfl) (fun K hK => ?_) AllReadyM.nil
 go_simp
 refine (cloneM_calls _ _ _ (H.out.mks.later (HL.out.trans lt_)) H.out.ml).mono ?_
 rintro e w4 ⟨v10, rfl, o8, b8⟩
 obtain ⟨A10, c10, rfl⟩ := own_form o8
 have l8 : Later w3 w4 := Later.trans lt_ b8
 have l9 : Later W5 w4 := Later.trans lt_ l8
 clear b8
 refine hK.out _ _ ?_ (fun hHeld => ?_)
 ·exact HT2.out _ lt_
 clear hK K
 try simp only [Act.put, s1_, s2_, s3_]
 refine wpAnyM_ready (rs := [7]) (by kernel_rfl) (by simp) ?_
 refine AllReadyM.free rfl (by rfl) (by kernel_rfl) (fun K hK => ?_) AllReadyM.nil
 have rr := R5.out.later l9
 have e4 := rr.cell (i := 4) rfl; have ez4 := rr.frozen 4
 go_simp
 refine hK.out _ _ ?_
 clear hK K
 try simp only [Act.put, s1_, s2_, s3_]
 refine wpAnyM_takeP (some 18) (by rfl) (i := 8) (oi := _) (v := ?_) rfl (by kernel_rfl) (by kernel_rfl) (by kernel_rfl) (fun _ _ _ h => h) (Or.inl ⟨by rfl, ?_⟩) ?_
 rotate_left
 ·intro w hSw; clear hSw; go_simp
  first | done | with_reducible rfl
 try simp only [Act.put, s1_, s2_, s3_]
 refine wpAnyM_ready (rs := [9]) (by kernel_rfl) (by simp) ?_
 refine AllReadyM.free rfl (by rfl) (by kernel_rfl) (fun K hK => ?_) AllReadyM.nil
 have rr3 := (R5.out.later l9).set_ 4 (.slice A9 D.ords.length c9)
 have e5 := rr3.cell (i := 5) rfl; have ez5 := rr3.frozen 5
 go_simp
 refine hK.out _ _ ?_
 clear hK K
 try simp only [Act.put, s1_, s2_, s3_]
 refine wpAnyM_done (by kernel_rfl) ?_ _
 clear hHeld
 have rr9 := rr3.set_ 5 (.slice A10 D.mks.length c10)
 obtain ⟨W6, hW6⟩ : ∃ W6, W6 = ((w4.setCell ⟨w.heap.size, 4, none⟩ (.slice A9 D.ords.length c9)).setCell ⟨w.heap.size, 5, none⟩ (.slice A10 D.mks.length c10)) := ⟨_, rfl⟩
 have r6 : Row W6 w.heap.size 27 [.slice A7 D.items.length c7, .int .i64 D.hor, .int .i64 D.now, .slice A8 D.caps.length c8, .slice A9 D.ords.length c9, .slice A10 D.mks.length c10] := by rw [hW6]; exact rr9
 have hlt : w.heap.size < W0.heap.size := by have := HSZ0.out; omega
 have hl5 : W0.heap.size <= w1.heap.size := H15.out
 have hl6 : W0.heap.size <= W5.heap.size := by have := H25.out; omega
 have hl7 : W5.heap.size <= w3.heap.size := l7.size
 have q7 : W6.ownsRow W0.heap.size 69 12 (.slice A7 D.items.length c7) D.items.length (es.flatMap cellsI) := by rw [hW6]; exact ownsRow_setCell_below (ownsRow_setCell_below (own_later Q7.out l9) hlt _) hlt _
 have q8 : W6.ownsRow w1.heap.size 3 1 (.slice A8 D.caps.length c8) D.caps.length (D.caps.flatMap iCells) := by rw [hW6]; exact ownsRow_setCell_below (ownsRow_setCell_below (own_later Q8.out l9) (by show w.heap.size < _; omega) _) (by show w.heap.size < _; omega) _
 have q9 : W6.ownsRow W5.heap.size 29 4 (.slice A9 D.ords.length c9) D.ords.length (D.ords.flatMap oCells) := by rw [hW6]; exact ownsRow_setCell_below (ownsRow_setCell_below (own_later o7 l8) (by show w.heap.size < W5.heap.size; omega) _) (by show w.heap.size < W5.heap.size; omega) _
 have q10 : W6.ownsRow w3.heap.size 43 3 (.slice A10 D.mks.length c10) D.mks.length (D.mks.flatMap mCells) := by rw [hW6]; exact ownsRow_setCell_below (ownsRow_setCell_below o8 (by show w.heap.size < _; omega) _) (by show w.heap.size < _; omega) _
 have l6 : Later w W6 := by rw [hW6]; exact ((L5.out.trans l9).setCell (Nat.le_refl _) _).setCell (Nat.le_refl _) _
 have r16 : Row W6 (w.heap.size + 1) 27 [.slice none 0 0, .int .i64 0, .int .i64 0, .slice none 0 0, .slice none 0 0, .slice none 0 0] := by rw [hW6]; exact ((R15.out.later l9).far (by show w.heap.size + 1 ≠ w.heap.size; omega) _).far (by show w.heap.size + 1 ≠ w.heap.size; omega) _
 rw [<- hW6]
 have d0 := r6.cell (i := 0) rfl; have d1 := r6.cell (i := 1) rfl; have d2 := r6.cell (i := 2) rfl; have d3 := r6.cell (i := 3) rfl; have d4 := r6.cell (i := 4) rfl; have d5 := r6.cell (i := 5) rfl
 have x0 := r16.cell (i := 0) rfl; have xz0 := r16.frozen 0; have x1 := r16.cell (i := 1) rfl; have xz1 := r16.frozen 1; have x2 := r16.cell (i := 2) rfl; have xz2 := r16.frozen 2; have x3 := r16.cell (i := 3) rfl; have xz3 := r16.frozen 3; have x4 := r16.cell (i := 4) rfl; have xz4 := r16.frozen 4; have x5 := r16.cell (i := 5) rfl; have xz5 := r16.frozen 5
 have HR16 := hide r16
 have Q7b := hide q7; have Q8b := hide q8; have Q9b := hide q9; have Q10b := hide q10; have L6 := hide l6; have HHL := hide (show w.heap.size < W0.heap.size /\ W0.heap.size <= w1.heap.size /\ W0.heap.size <= W5.heap.size /\ W5.heap.size <= w3.heap.size from ⟨hlt, hl5, hl6, hl7⟩)
 have A78 := hide (own_apart Q7w.out Q8.out (Nat.le_refl _)); have A79 := hide (own_apart Q7.out o7 (Nat.le_refl _)); have A710 := hide (own_apart Q7.out o8 l7.size); have A89 := hide (own_apart Q8.out o7 (Nat.le_refl _)); have A810 := hide (own_apart Q8.out o8 l7.size); have A910 := hide (own_apart o7 o8 (Nat.le_refl _))
 clear hW6 r6 hlt hl5 hl6 hl7 q7 q8 q9 q10 l6 r16 rr rr3 rr9 e4 ez4 e5 ez5 o7 o8 l7 l8 l9 lw1 hB0
 go_wp2_with fail
 have hh := HHL.out
 have hgb : ∀ {base : Nat} {e : TypeId} {size n : Nat} {v : Value} {xs : List Value}, W6.ownsRow base e size v n xs -> w.heap.size + 2 <= base -> ∀ k, v.ownBlock = some k -> k ≠ w.heap.size + 1 := fun h hb k hk => by have := (World.ownsRow.lt h k hk).1; omega
 have hs2 := HSZ0.out
 have hw0 := HL.out.size
 refine bodyPost_ret (results_bk rfl rfl (HR16.out.put6 _ _ _ _ _ _)) rfl ?_
 exact ⟨_, _, _, _, rfl, HL.out.trans (L6.out.only (only6 _ _ _ _ _ _ _) (by omega)), ⟨es, HES.out, own_weaken (own_only Q7b.out (only6 _ _ _ _ _ _ _) (hgb Q7b.out (by omega))) (by omega)⟩, own_weaken (own_only Q8b.out (only6 _ _ _ _ _ _ _) (hgb Q8b.out (by omega))) (by omega), own_weaken (own_only Q9b.out (only6 _ _ _ _ _ _ _) (hgb Q9b.out (by omega))) (by omega), own_weaken (own_only Q10b.out (only6 _ _ _ _ _ _ _) (hgb Q10b.out (by omega))) (by omega), A78.out, A79.out, A710.out, A89.out, A810.out, A910.out⟩
end Go.Proofs.YtncbebfhakcgdaaGreat
namespace Go.Proofs.YtncbebfhakcgdaaGreat
open Go.RowKit Go.Shelf
attribute [local go_sem ↓] Go.wp_at_zero Go.wp_at_succ
def PerP (w : World) (c : Int) (e : Ending) (w' : World) : Prop := Later w w' /\ ((c = 0 /\ e = .returned (.tuple #[])) ∨ (c ≠ 0 /\ e = .panicked (Pan c)))
set_option maxHeartbeats 4000000 in
theorem per1_calls (w : World) (x : PMk) (G : Nat) (p : Int) (h1 : w.cell? ⟨G, 0, none⟩ = some (.int .i64 p)) :
 Calls Tryz.prog 109 #[.agg #[.int .i64 x.item, .int .i64 x.period, .int .i64 x.qty], .pointer (some ⟨G, 0, none⟩)] w (RetV w (.bool (decide (x.period = p)))) := by
 have H1 := hide h1
 clear h1
 obtain ⟨W0, hW0⟩ : ∃ W0, W0 = (w.alloc (Obj.cells #[Value.int .i64 x.item, Value.int .i64 x.period, Value.int .i64 x.qty] 43)) := ⟨_, rfl⟩
 have B0 := hide (show Later w W0 by rw [hW0]; exact (Later.refl _).alloc _)
 have HR0 := hide (show Row W0 w.heap.size 43 [.int .i64 x.item, .int .i64 x.period, .int .i64 x.qty] by rw [hW0]; exact Row.new _ _ _)
 have HW0 := hide hW0
 clear hW0
 go_enter Tryz.func109, Tryz.ntmps109
 go_upto_region 1 with fail
 rw [<- HW0.out]
 have d1 := HR0.out.cell (i := 1) rfl
 have g0 := Later.cell B0.out H1.out
 go_wp2_with fail
 go_ret
 exact ⟨by first | rfl | simp | (simp; rfl), B0.out⟩
set_option maxHeartbeats 4000000 in
theorem per_calls (w : World) (G : Nat) (A1 A2 A3 A4 : Option Addr) (n1 n2 n3 n4 c1 c2 c3 c4 : Nat) (D : PBook) (hR : Row w G 75 [.slice A1 n1 c1, .int .i64 D.hor, .int .i64 D.now, .slice A2 n2 c2, .slice A3 n3 c3, .slice A4 n4 c4]) (hM : Sq 3 mCells w (.slice A4 n4 c4) D.mks) (hl : D.mks.length <= 1000) (p : Int) (right : Bool) (c : Int) (hc : (if right = true then perE D p else 1) = c) :
 Calls Tryz.prog 79 #[.pointer (some ⟨G, 0, none⟩), .int .i64 p, .bool right] w (PerP w c) := by
 have HR := hide hR; have HM := hide hM; have HC := hide hc
 clear hR hM hc
 obtain ⟨W0, hW0⟩ : ∃ W0, W0 = (w.alloc (Obj.cells #[Value.int .i64 p] 3)) := ⟨_, rfl⟩
 have B0 := hide (show Later w W0 by rw [hW0]; exact (Later.refl _).alloc _)
 have HR0 := hide (show Row W0 w.heap.size 3 [.int .i64 p] by rw [hW0]; exact Row.new _ _ _)
 have HW0 := hide hW0
 clear hW0
 go_enter Tryz.func79, Tryz.ntmps79
 go_upto_region 1 with fail
 rw [<- HW0.out]
 have d0 := HR0.out.cell (i := 0) rfl
 cases right with
 | false =>
   go_wp2_with (go_at_call 29; refine (must_no _ _).mono ?_; rintro e w' ⟨rfl, rfl⟩)
   exact ⟨rfl, B0.out, .inr ⟨by rw [<- HC.out]; simp, by rw [<- HC.out]; rfl⟩⟩
 | true =>
   have e1 : perE D p = c := HC.out
   by_cases g1 : p < 0
   ·have t1 : decide (0 <= p) = false := by simp; omega
    have HC1 : Hid (1 = c) := hide (by rw [<- e1]; unfold perE; rw [if_pos (by omega)])
    go_wp2_with (go_at_call 29; refine (must_no _ _).mono ?_; rintro e w' ⟨rfl, rfl⟩)
    exact ⟨rfl, B0.out, .inr ⟨by rw [<- HC1.out]; decide, by rw [<- HC1.out]⟩⟩
   have t1 : decide (0 <= p) = true := by simp; omega
   by_cases g2 : 39 < p
   ·have t2 : decide (p < 40) = false := by simp; omega
    have HC1 : Hid (1 = c) := hide (by rw [<- e1]; unfold perE; rw [if_pos (by omega)])
    go_wp2_with (go_at_call 29; refine (must_no _ _).mono ?_; rintro e w' ⟨rfl, rfl⟩)
    exact ⟨rfl, B0.out, .inr ⟨by rw [<- HC1.out]; decide, by rw [<- HC1.out]⟩⟩
   have t2 : decide (p < 40) = true := by simp; omega
   go_upto_region 2 with (go_at_call 29; refine (must_yes _ _).mono ?_; rintro e w' ⟨rfl, rfl⟩)
   have HT1 : Hid (∀ w', Later W0 w' -> w'.cell? ⟨w.heap.size, 0, none⟩ = some (.int .i64 p) /\ w'.cell? ⟨G, 2, none⟩ = some (.int .i64 D.now)) := hide fun w' hb => ⟨(HR0.out.later hb).cell rfl, (HR.out.later (B0.out.trans hb)).cell rfl⟩
   have hmx : Tryz.prog.follows .mixedOrders = true := by kernel_rfl
   by_cases g3 : p < D.now
   ·have HC1 : Hid (13 = c) := hide (by rw [<- e1]; unfold perE; rw [if_neg (by omega), if_pos g3])
    have t3 : decide (D.now <= p) = false := by simp; omega
    refine wp_region_N (fun w' => w'.cell? ⟨w.heap.size, 0, none⟩ = some (.int .i64 p) /\ w'.cell? ⟨G, 2, none⟩ = some (.int .i64 D.now)) [] hmx (HT1.out _ lt_) (fun hHeld => ?_)
    refine tkB 16 0 ?_
    refine tkB 17 1 ?_
    refine tkB 18 2 ?_
    refine tkB 19 3 ?_
    refine tkB 20 4 ?_
    refine tkB 21 5 ?_
    refine tkB 22 6 ?_
    refine wpAnyN_ready (rs := [7]) (by kernel_rfl) (by simp) ?_
    refine AllReadyN.held rfl (by rfl) (fun K hK => ?_) AllReadyN.nil
    go_simp
    refine (must_no _ _).mono ?_
    rintro e w2 ⟨rfl, rfl⟩
    exact ⟨rfl, B0.out.drew, .inr ⟨by rw [<- HC1.out]; decide, by rw [<- HC1.out]⟩⟩
   have t3 : decide (D.now <= p) = true := by simp; omega
   have e2 : (if D.mks.any (fun x => decide (x.period = p)) then (9 : Int) else 0) = c := by rw [<- e1]; unfold perE; rw [if_neg (show ¬ (p < 0 ∨ 39 < p) by omega), if_neg g3]
   have HC2 := hide e2
   clear e1 e2 g1 g2 g3
   refine wp_region_N (fun w' => w'.cell? ⟨w.heap.size, 0, none⟩ = some (.int .i64 p) /\ w'.cell? ⟨G, 2, none⟩ = some (.int .i64 D.now)) [] hmx (HT1.out _ lt_) (fun hHeld => ?_)
   refine tkB 16 0 ?_
   refine tkB 17 1 ?_
   refine tkB 18 2 ?_
   refine tkB 19 3 ?_
   refine tkB 20 4 ?_
   refine tkB 21 5 ?_
   refine tkB 22 6 ?_
   refine wpAnyN_ready (rs := [7]) (by kernel_rfl) (by simp) ?_
   refine AllReadyN.held rfl (by rfl) (fun K hK => ?_) AllReadyN.nil
   go_simp
   refine (must_yes _ _).mono ?_
   rintro e w2 ⟨rfl, rfl⟩
   refine hK.out _ _ ?_ (fun hHeld => ?_)
   ·exact HT1.out _ lt_
   clear hK K
   try simp only [Act.put, s1_, s2_, s3_]
   refine wpAnyN_done (by kernel_rfl) ?_ _
   clear hHeld
   have dG := (HR.out.later (B0.out.drew)).cell (i := 5) rfl
   obtain ⟨u, hu⟩ : ∃ u, D.mks.any (fun x => decide (x.period = p)) = u := ⟨_, rfl⟩
   have HU := hide hu
   have HC3 : Hid ((if u = true then (9 : Int) else 0) = c) := hide (by rw [<- hu]; exact HC2.out)
   clear hu hHeld
   have hmf := mkF
   cases u with
   | true =>
     go_wp2_with (first | (go_at_call 61; refine (contM1_calls _ _ _ (HM.out.later (B0.out.drew)) (by omega) _ ⟨fun _ _ => by kernel_rfl⟩ w.heap.size (fun x => decide (x.period = p)) (fun W x hW _ => per1_calls W x w.heap.size p ((HR0.out.drew.later hW).cell rfl)) _ HU.out).mono ?_; rintro e w2 ⟨rfl, b2⟩) | (go_at_call 29; refine (must_no _ _).mono ?_; rintro e w' ⟨rfl, rfl⟩))
     exact ⟨rfl, Later.trans B0.out.drew b2, .inr ⟨by rw [<- HC3.out]; decide, by rw [<- HC3.out]; rfl⟩⟩
   | false =>
     go_wp2_with (first | (go_at_call 61; refine (contM1_calls _ _ _ (HM.out.later (B0.out.drew)) (by omega) _ ⟨fun _ _ => by kernel_rfl⟩ w.heap.size (fun x => decide (x.period = p)) (fun W x hW _ => per1_calls W x w.heap.size p ((HR0.out.drew.later hW).cell rfl)) _ HU.out).mono ?_; rintro e w2 ⟨rfl, b2⟩) | (go_at_call 29; refine (must_yes _ _).mono ?_; rintro e w' ⟨rfl, rfl⟩))
     go_end0
     exact ⟨Later.trans B0.out.drew b2, .inl ⟨by rw [<- HC3.out]; rfl, rfl⟩⟩
end Go.Proofs.YtncbebfhakcgdaaGreat
namespace Go.Proofs.YtncbebfhakcgdaaGreat
open Go.RowKit Go.Shelf
attribute [local go_sem ↓] Go.wp_at_zero Go.wp_at_succ
structure KIn (w0 w : World) (G : Nat) (A1 A2 A3 A4 : Option Addr) (n1 n2 n3 n4 c1 c2 c3 c4 : Nat) (D : PBook) : Prop where
 own : OwnB w0 w (.slice A1 n1 c1) (.slice A2 n2 c2) (.slice A3 n3 c3) (.slice A4 n4 c4) D
 row : Row w G 75 [.slice A1 n1 c1, .int .i64 D.hor, .int .i64 D.now, .slice A2 n2 c2, .slice A3 n3 c3, .slice A4 n4 c4]
 lo : w0.heap.size <= G
 bI : ∀ k, (Value.slice A1 n1 c1).ownBlock = some k -> k ≠ G
 bC : ∀ k, (Value.slice A2 n2 c2).ownBlock = some k -> k ≠ G
 bO : ∀ k, (Value.slice A3 n3 c3).ownBlock = some k -> k ≠ G
 bM : ∀ k, (Value.slice A4 n4 c4).ownBlock = some k -> k ≠ G
theorem KIn.later {w0 w w' : World} {G : Nat} {A1 A2 A3 A4 : Option Addr} {n1 n2 n3 n4 c1 c2 c3 c4 : Nat} {D : PBook} (h : KIn w0 w G A1 A2 A3 A4 n1 n2 n3 n4 c1 c2 c3 c4 D) (hb : Later w w') : KIn w0 w' G A1 A2 A3 A4 n1 n2 n3 n4 c1 c2 c3 c4 D :=
 ⟨h.own.later hb, h.row.later hb, h.lo, h.bI, h.bC, h.bO, h.bM⟩
def KeepP (w0 : World) (G : Nat) (r : Except Int PBook) (e : Ending) (w' : World) : Prop := Later w0 w' /\ match r with
 | .ok D' => e = .returned (.tuple #[]) /\ MayP D' /\ ∃ A1 A2 A3 A4 n1 n2 n3 n4 c1 c2 c3 c4, KIn w0 w' G A1 A2 A3 A4 n1 n2 n3 n4 c1 c2 c3 c4 D'
 | .error c => e = .panicked (Pan c)
theorem own_len3 {w : World} {base : Nat} {e : TypeId} {size n m c : Nat} {A : Option Addr} {xs : List Value} (h : w.ownsRow base e size (.slice A n c) m xs) : n = m /\ n <= c /\ c <= maxLen := by
 obtain ⟨-, h⟩ := h
 rcases h with ⟨h1, h2⟩ | ⟨g, cap, cur, h1, -, -, h2, h3, -⟩
 ·injection h1 with _ h3 h4; subst h2 h3 h4; exact ⟨rfl, Nat.le_refl _, by decide⟩
 ·injection h1 with _ h4 h5; subst h4 h5; exact ⟨rfl, h2, h3⟩
theorem KIn.only {w0 w w' : World} {G : Nat} {A1 A2 A3 A4 : Option Addr} {n1 n2 n3 n4 c1 c2 c3 c4 : Nat} {D : PBook} (h : KIn w0 w G A1 A2 A3 A4 n1 n2 n3 n4 c1 c2 c3 c4 D) (o : Only G w w') : OwnB w0 w' (.slice A1 n1 c1) (.slice A2 n2 c2) (.slice A3 n3 c3) (.slice A4 n4 c4) D := by
 obtain ⟨es, h1, h2⟩ := h.own.its
 exact { h.own with lt := h.own.lt.only o h.lo, its := ⟨es, h1, own_only h2 o h.bI⟩, caps := own_only h.own.caps o h.bC, ords := own_only h.own.ords o h.bO, mks := own_only h.own.mks o h.bM }
set_option maxHeartbeats 4000000 in
theorem advance_calls (w : World) (w0 : World) (G : Nat) (A1 A2 A3 A4 Aq : Option Addr) (n1 n2 n3 n4 nq c1 c2 c3 c4 cq : Nat) (D : PBook) (o : POp) (hK : KIn w0 w G A1 A2 A3 A4 n1 n2 n3 n4 c1 c2 c3 c4 D) (hmay : MayP D) :
 Calls Tryz.prog 36 #[.pointer (some ⟨G, 0, none⟩), .agg #[.int .i64 o.kind, .int .i64 o.ord.id, .int .i64 o.ord.item, .int .i64 o.ord.due, .int .i64 o.ord.qty, .int .i64 o.id, .int .i64 o.period, .int .i64 o.qty, .slice Aq nq cq]] w (KeepP w0 G (advV D)) := by
 have HK := hide hK; have HMY := hide hmay
 clear hK hmay
 obtain ⟨W0, hW0⟩ : ∃ W0, W0 = (w.alloc (Obj.cells #[Value.int .i64 o.kind, Value.int .i64 o.ord.id, Value.int .i64 o.ord.item, Value.int .i64 o.ord.due, Value.int .i64 o.ord.qty, Value.int .i64 o.id, Value.int .i64 o.period, Value.int .i64 o.qty, Value.slice Aq nq cq] 31)) := ⟨_, rfl⟩
 have B0 := hide (show Later w W0 by rw [hW0]; exact (Later.refl _).alloc _)
 have HR0 := hide (show Row W0 w.heap.size 31 [.int .i64 o.kind, .int .i64 o.ord.id, .int .i64 o.ord.item, .int .i64 o.ord.due, .int .i64 o.ord.qty, .int .i64 o.id, .int .i64 o.period, .int .i64 o.qty, .slice Aq nq cq] by rw [hW0]; exact Row.new _ _ _)
 have HW0 := hide hW0
 clear hW0
 go_enter Tryz.func36, Tryz.ntmps36
 go_upto_region 1 with fail
 rw [<- HW0.out]
 have rk := (HK.out.later B0.out).row
 have d2 := rk.cell (i := 2) rfl
 have z2 := rk.frozen 2
 clear rk
 by_cases g : 40 <= D.now
 ·have t1 : decide (D.now < 40) = false := by simp; omega
  have HV : Hid (advV D = .error 3) := hide (by unfold advV; rw [if_pos g])
  go_wp2_with (go_at_call 29; refine (must_no _ _).mono ?_; rintro e w' ⟨rfl, rfl⟩)
  exact ⟨rfl, HK.out.own.lt.trans B0.out, by rw [HV.out]⟩
 ·have t1 : decide (D.now < 40) = true := by simp; omega
  have HV : Hid (advV D = .ok { D with now := D.now + 1 }) := hide (by unfold advV; rw [if_neg g])
  have t2 : IntKind.i64.wrap (D.now + 1) = D.now + 1 := IntWalk.i64_in _ (by have := HMY.out.head.t0; have := HMY.out.head.t40; omega)
  have HMAY : Hid (MayP { D with now := D.now + 1 }) := hide (by have hm := HMY.out; exact ⟨head_of hm.head rfl rfl ⟨by have := hm.head.t0; dsimp only; omega, by dsimp only; omega⟩ ⟨hm.head.cl, hm.head.caps⟩, hm.ol, hm.ml, hm.ords, hm.mks, hm.oris, hm.mris⟩)
  go_wp2_with (go_at_call 29; refine (must_yes _ _).mono ?_; rintro e w' ⟨rfl, rfl⟩)
  go_end0
  have hk := HK.out.later B0.out
  have ho := hk.only (Only.one G W0 2 (.int .i64 (D.now + 1)))
  refine ⟨ho.lt, ?_⟩
  rw [HV.out]
  exact ⟨rfl, HMAY.out, A1, A2, A3, A4, n1, n2, n3, n4, c1, c2, c3, c4, ⟨ho.lt, ho.its, ho.caps, ho.ords, ho.mks, ho.aIC, ho.aIO, ho.aIM, ho.aCO, ho.aCM, ho.aOM⟩, hk.row.set_ 2 _, hk.lo, hk.bI, hk.bC, hk.bO, hk.bM⟩
end Go.Proofs.YtncbebfhakcgdaaGreat
namespace Go.Proofs.YtncbebfhakcgdaaGreat
open Go.RowKit Go.Shelf
attribute [local go_sem ↓] Go.wp_at_zero Go.wp_at_succ
def spl (cs : List Value) (o : Nat) (vs : List Value) : List Value := cs.take o ++ vs ++ cs.drop (o + vs.length)
theorem spl_len {cs vs : List Value} {o : Nat} (h : o + vs.length <= cs.length) : (spl cs o vs).length = cs.length := by unfold spl; simp; omega
theorem spl_take {cs vs : List Value} {o k : Nat} (h : k <= o) (ho : o <= cs.length) : (spl cs o vs).take k = cs.take k := by
 unfold spl
 rw [List.append_assoc, List.take_append_of_le_length (by simp; omega), List.take_take]; congr 1; omega
theorem spl_take2 {cs vs : List Value} {o : Nat} (h : o + vs.length <= cs.length) : (spl cs o vs).take (o + vs.length) = cs.take o ++ vs := by
 unfold spl
 rw [List.take_append_of_le_length (by simp; omega), List.take_of_length_le (by simp; omega)]
theorem row_setRow {w : World} {g : Nat} {t : TypeId} {cs ds : List Value} (h : Row w g t cs) : Row (w.setRow g ds.toArray) g t ds := by
 unfold Row at *; exact setRow_heap w g _ _ t _ h
theorem only_setRow (w : World) (g : Nat) (ds : Array Value) : Only g w (w.setRow g ds) := by
 refine ⟨rfl, rfl, rfl, by unfold World.setRow; simp, fun b hb => ?_⟩
 unfold World.setRow
 simp [Array.getElem?_modify]
 intro e; exact absurd e.symm hb
theorem run_store_row {P : Program} {w : World} {g o : Nat} {t : TypeId} {cs vs : List Value} (h : Row w g t cs) (hl : o + vs.length <= cs.length) (h1 : ∀ v ∈ vs, v.oneCell' = true) :
 (storeCells ⟨g, o, none⟩ vs).run P w = .ok () (w.setRow g (spl cs o vs).toArray) := by
 have := run_storeCells_at P g o t vs 0 cs.toArray w h (by simpa using hl) h1
 simpa [spl] using this
theorem run_append_row {P : Program} {w : World} (t ty e : TypeId) (i : TypeInfo) (ht : P.underlying t = some (.slice e)) (hi : P.info? e = some i)
 {g : Nat} {T : TypeId} {cs : List Value} (n cap : Nat) (h : Row w g T cs) (a : Addr) (m c : Nat) (news : List Value) (hl : news.length = m * i.size) (hnews : ∀ j u, news[j]? = some u -> w.cell? (a.add j) = some u) (h1 : ∀ u ∈ news, u.oneCell' = true)
 (hroom : n + m <= cap) (hc : n * i.size + news.length <= cs.length) :
 (Builtin.append_ #[t, t] ty #[.slice (some ⟨g, 0, none⟩) n cap, .slice (some a) m c]).run P w = .ok (.slice (some ⟨g, 0, none⟩) (n + m) cap) (w.setRow g (spl cs (n * i.size) news).toArray) := by
 have hfc := run_firstCells_some (P := P) w i.size m a m c news hl hnews
 have hst := run_store_row (P := P) (o := n * i.size) h hc h1
 have ha : (⟨g, 0, none⟩ : Addr).add (n * i.size) = ⟨g, n * i.size, none⟩ := by rw [addr_add, Nat.zero_add]
 simp [Builtin.append_, run_underlying ht, sizeOf, typeInfo, hi, Builtin.lenOf, hroom, hfc, ha, hst]
theorem wp_append_room {P : Program} {o : Oper} {a : Act} {w : World} {K : Act -> World -> Prop} {Q : Exit -> Act -> World -> Prop} (s x : Operand) (t : TypeId) (ho : o.op = .call { callee := .builtin .append, args := #[s, x], argTypes := #[t, t] })
 (e : TypeId) (i : TypeInfo) (h1 : P.underlying t = some (.slice e)) (h2 : P.info? e = some i) {g : Nat} {T : TypeId} {cs : List Value} (n cap : Nat) (hs : a.eval s = .slice (some ⟨g, 0, none⟩) n cap) (h : Row w g T cs)
 (ad : Addr) (m c : Nat) (news : List Value) (hx : a.eval x = .slice (some ad) m c) (hl : news.length = m * i.size) (hnews : ∀ j u, news[j]? = some u -> w.cell? (ad.add j) = some u) (hone : ∀ u ∈ news, u.oneCell' = true)
 (hroom : n + m <= cap) (hc : n * i.size + news.length <= cs.length)
 (hK : K (a.put o.dst (.slice (some ⟨g, 0, none⟩) (n + m) cap)) (w.setRow g (spl cs (n * i.size) news).toArray)) : o.wp P a w K Q := by
 have hrun := run_append_row (P := P) t o.type e i h1 h2 n cap h ad m c news hl hnews hone hroom hc
 unfold Oper.wp
 simp [execOp, ho, resolve, invoke, builtin, hs, hx, hrun, Result.andThen]
 exact hK
theorem zeroCells_one {z : Array Value} (hz : ∀ v ∈ z, v.oneCell' = true) (n : Nat) (h0 : 0 < z.size) : ∀ v ∈ (Builtin.zeroCells z n).toList, v.oneCell' = true := by
 intro v hv
 simp only [Builtin.zeroCells, Array.toList_map, Array.toList_range, List.mem_map] at hv
 obtain ⟨k, -, rfl⟩ := hv
 have : k % z.size < z.size := Nat.mod_lt _ h0
 rw [getElem!_pos z _ this]
 exact hz _ (Array.getElem_mem _)
theorem run_clear_row {P : Program} {w : World} (t e ty : TypeId) (z : Value) (ht : P.underlying t = some (.slice e)) (hv : ∀ w, (zeroValue e).run P w = .ok z w) (hz : ∀ v ∈ z.cells, v.oneCell' = true) (h0 : 0 < z.cells.size)
 {g o n c : Nat} {T : TypeId} {cs : List Value} (h : Row w g T cs) (hn : 0 < n) (ho : o + n * z.cells.size <= cs.length) :
 (Builtin.clear_ #[t] ty #[.slice (some ⟨g, o, none⟩) n c]).run P w = .ok (.tuple #[]) (w.setRow g (spl cs o (Builtin.zeroCells z.cells n).toList).toArray) := by
 have hl : (Builtin.zeroCells z.cells n).toList.length = n * z.cells.size := by simp [Builtin.zeroCells]
 have hst := run_store_row (P := P) (o := o) (vs := (Builtin.zeroCells z.cells n).toList) h (by omega) (zeroCells_one hz n h0)
 obtain ⟨m, rfl⟩ : ∃ m, n = m + 1 := ⟨n - 1, by omega⟩
 simp [Builtin.clear_, run_underlying ht, hv, hst]
theorem run_copy_rec {P : Program} {w : World} (dT sT ty e : TypeId) (i : TypeInfo) (ht : P.underlying dT = some (.slice e)) (hi : P.info? e = some i) {g o dLen dCap : Nat} {T : TypeId} {cs : List Value} (h : Row w g T cs)
 (a : Addr) (m c k : Nat) (news : List Value) (hk : Nat.min m dLen = k) (hl : news.length = k * i.size) (hnews : ∀ j u, news[j]? = some u -> w.cell? (a.add j) = some u) (h1 : ∀ u ∈ news, u.oneCell' = true) (hc : o + news.length <= cs.length) :
 (Builtin.copy_ #[dT, sT] ty #[.slice (some ⟨g, o, none⟩) dLen dCap, .slice (some a) m c]).run P w = .ok (goInt k) (w.setRow g (spl cs o news).toArray) := by
 have hfc := run_firstCells_some (P := P) w i.size k a m c news hl hnews
 have hst := run_store_row (P := P) (o := o) h hc h1
 simp [Builtin.copy_, run_underlying ht, sizeOf, typeInfo, hi, Builtin.lenOf, hk, hfc, hst]
theorem wp_copy_at {P : Program} {o : Oper} {a : Act} {w : World} {K : Act -> World -> Prop} {Q : Exit -> Act -> World -> Prop} (d s : Operand) (t t' : TypeId) (ho : o.op = .call { callee := .builtin .copy, args := #[d, s], argTypes := #[t, t'] }) (v u : Value) (hd : a.eval d = v) (hs : a.eval s = u) {v' : Value} {w' : World}
 (hr : (Builtin.copy_ #[t, t'] o.type #[v, u]).run P w = .ok v' w') (hK : K (a.put o.dst v') w') : o.wp P a w K Q := by
 unfold Oper.wp
 simp [execOp, ho, resolve, invoke, builtin, hd, hs, hr, Result.andThen]
 exact hK
theorem spl_two {cs X S : List Value} {a : Nat} (h : a + X.length <= cs.length) : spl (spl cs (a + X.length) S) a X = cs.take a ++ X ++ (S ++ cs.drop (a + X.length + S.length)) := by
 unfold spl
 rw [List.append_assoc (cs.take (a + X.length)) S, List.take_append_of_le_length (by simp; omega), List.take_take, Nat.min_eq_left (by omega), List.drop_append, List.drop_of_length_le (by simp; omega)]
 simp [Nat.min_eq_left h]
theorem flat_take {α : Type} {m : Nat} {enc : α -> List Value} (hm : ∀ x, (enc x).length = m) (l : List α) (i : Nat) : (l.flatMap enc).take (i * m) = (l.take i).flatMap enc := by
 induction l generalizing i with
 | nil => simp
 | cons x l ih =>
   cases i with
   | zero => simp
   | succ i =>
     rw [List.take_succ_cons, List.flatMap_cons, List.flatMap_cons, <- ih i, List.take_append, hm, Nat.succ_mul, show i * m + m - m = i * m by omega, List.take_of_length_le (by rw [hm]; omega)]
theorem flat_drop {α : Type} {m : Nat} {enc : α -> List Value} (hm : ∀ x, (enc x).length = m) (l : List α) (i : Nat) : (l.flatMap enc).drop (i * m) = (l.drop i).flatMap enc := by
 induction l generalizing i with
 | nil => simp
 | cons x l ih =>
   cases i with
   | zero => simp
   | succ i =>
     rw [List.drop_succ_cons, List.flatMap_cons, <- ih i, List.drop_append, hm, Nat.succ_mul, show i * m + m - m = i * m by omega, List.drop_of_length_le (by rw [hm]; omega), List.nil_append]
theorem own_row {w : World} {base : Nat} {T : TypeId} {size n m : Nat} {g c : Nat} {off : Nat} {xs : List Value} (h : w.ownsRow base T size (.slice (some ⟨g, off, none⟩) n c) m xs) : off = 0 /\ n = m /\ base <= g /\ n <= c /\ c <= maxLen /\ ∃ cs, Row w g T cs /\ cs.length = c * size /\ cs.take (n * size) = xs := by
 obtain ⟨h0, h⟩ := h
 rcases h with ⟨h1, -⟩ | ⟨g', cap, cur, h1, h2, h3, h4, h5, h6, h7⟩
 ·cases h1
 ·injection h1 with h8 h9 h10
  injection h8 with h8
  injection h8 with h11 h12
  subst h9 h10 h11 h12
  exact ⟨rfl, rfl, h2, h4, h5, cur.toList, by unfold Row; simpa using h3, by simpa using h6, h7⟩
theorem own_mk {w : World} {base : Nat} {T : TypeId} {size n : Nat} {g c : Nat} {cs xs : List Value} (hr : Row w g T cs) (hb : base <= g) (hn : n <= c) (hc : c <= maxLen) (hl : cs.length = c * size) (hx : cs.take (n * size) = xs) : w.ownsRow base T size (.slice (some ⟨g, 0, none⟩) n c) n xs := by
 refine ⟨?_, .inr ⟨g, c, cs.toArray, rfl, hb, hr, hn, hc, by simpa using hl, by simpa using hx⟩⟩
 rw [<- hx, List.length_take, hl, Nat.min_eq_left (Nat.mul_le_mul_right _ hn)]
theorem zero_ord (w : World) : (zeroValue 29).run Tryz.prog w = .ok (.agg #[.int .i64 0, .int .i64 0, .int .i64 0, .int .i64 0]) w := by
 obtain ⟨i, hi, hz, hs, hb⟩ := info_parts info_o4
 simp [zeroValue, typeInfo, hi, hz, go_sem]
set_option maxHeartbeats 4000000 in
theorem delO_calls (w : World) (lo g c n : Nat) (l : List POrd) (i : Nat) (hi : i < n) (hO : w.ownsRow lo 29 4 (.slice (some ⟨g, 0, none⟩) n c) l.length (l.flatMap oCells)) (hn1 : l.length <= 1000) :
 Calls Tryz.prog 78 #[.slice (some ⟨g, 0, none⟩) n c, .int .i64 i, .int .i64 (i + 1)] w (fun e w' => e = .returned (.slice (some ⟨g, 0, none⟩) (n - 1) c) /\ w'.ownsRow lo 29 4 (.slice (some ⟨g, 0, none⟩) (n - 1) c) (n - 1) ((l.take i ++ l.drop (i + 1)).flatMap oCells) /\ ∃ w1, Later w w1 /\ Only g w1 w') := by
 obtain ⟨-, hn, hb, hnc, hcm, cs, hr, hl, hx⟩ := own_row hO
 subst hn
 have HR := hide hr; have HX := hide hx
 clear hO hr hx
 have hne : ((i : Int) == (i : Int) + 1) = false := by rw [beq_eq_false_iff_ne]; omega
 have hc2 : c <= 9223372036854775807 := hcm
 go_enter Tryz.func78, Tryz.ntmps78
 go_upto_region 5 with fail
 have hmx : Tryz.prog.follows .mixedOrders = true := by kernel_rfl
 have hic : i <= c := by omega
 have hI0 : 0 <= (i : Int) + 1 := by omega
 have hI1 : (i : Int) + 1 <= (l.length : Int) := by omega
 obtain ⟨ad, had, had2⟩ : ∃ ad : Addr, (if c = i + 1 then some (⟨g, 0, none⟩ : Addr) else some ⟨g, (i + 1) * 4, none⟩) = some ad /\ (c ≠ i + 1 -> ad = ⟨g, (i + 1) * 4, none⟩) := by
  by_cases e : c = i + 1
  ·exact ⟨_, if_pos e, fun h => absurd e h⟩
  ·exact ⟨_, if_neg e, fun _ => rfl⟩
 obtain ⟨i0, hi0, hz0, hs0, hb0⟩ := info_parts info_o4
 have HNEWS : Hid (∀ j u, ((l.drop (i + 1)).flatMap oCells)[j]? = some u -> w.drew.cell? (ad.add j) = some u) := hide (fun j u hj => by
  have hlt := (List.getElem?_eq_some_iff.1 hj).1
  rw [flat_len oCells_len, List.length_drop] at hlt
  rw [had2 (by omega), addr_add]
  refine HR.out.drew.cell ?_
  rw [<- flat_drop oCells_len, <- HX.out, List.getElem?_drop, List.getElem?_take] at hj
  split at hj
  ·exact hj
  ·cases hj)
 clear had2 hz0 hb0
 refine wp_region_N (fun _ => True) [] hmx trivial (fun hHeld => ?_)
 refine tkB 20 0 ?_
 refine tkB 21 1 ?_
 refine tkB 22 2 ?_
 refine tkB 23 3 ?_
 refine tkB 24 4 ?_
 refine tkB 25 5 ?_
 refine wpAnyN_ready (rs := [6]) (by kernel_rfl) (by simp) ?_
 refine AllReadyN.held rfl (by rfl) (fun K hK => ?_) AllReadyN.nil
 refine wp_append_room (.tmp 22) (.tmp 25) _ rfl 29 i0 Tryz.underlying24 hi0 i c rfl HR.out.drew ad (l.length - (i + 1)) (c - (i + 1)) ((l.drop (i + 1)).flatMap oCells) rfl (by rw [hs0, flat_len oCells_len, List.length_drop]) HNEWS.out (fun u hu => by obtain ⟨x, hx, hu⟩ := List.mem_flatMap.1 hu; exact oCells_one x u hu) (by omega) (by rw [hs0, flat_len oCells_len, List.length_drop]; omega) ?_
 rw [hs0, show i + (l.length - (i + 1)) = l.length - 1 by omega]
 obtain ⟨W1, hW1⟩ : ∃ W1, W1 = (w.drew.setRow g (spl cs (i * 4) ((l.drop (i + 1)).flatMap oCells)).toArray) := ⟨_, rfl⟩
 have HR1 : Hid (Row W1 g 29 (spl cs (i * 4) ((l.drop (i + 1)).flatMap oCells))) := hide (by rw [hW1]; exact row_setRow HR.out.drew)
 have HO1 : Hid (Only g w.drew W1) := hide (by rw [hW1]; exact only_setRow _ _ _)
 rw [<- hW1]
 clear hW1
 refine hK.out _ _ ?_ (fun hHeld => ?_)
 ·trivial
 clear hK K
 try simp only [Act.put, s1_, s2_, s3_]
 refine tkB 0 7 ?_
 refine wpAnyN_done (by kernel_rfl) ?_ _
 clear hHeld
 have hclr := fun ty => run_clear_row (P := Tryz.prog) (w := W1) 24 29 ty _ Tryz.underlying24 zero_ord (by intro v hv; simp [Value.cells] at hv; subst hv; rfl) (by simp [Value.cells]) (g := g) (o := (l.length - 1) * 4) (n := 1) (c := c - (l.length - 1)) HR1.out (by omega) (by rw [spl_len (by rw [flat_len oCells_len, List.length_drop]; omega)]; simp [Value.cells]; omega)
 have hcl : ¬ c = l.length - 1 := by omega
 have hJ : l.length - (l.length - 1) = 1 := by omega
 go_wp2_with fail
 go_ret
 have hnl : ((l.drop (i + 1)).flatMap oCells).length = (l.length - (i + 1)) * 4 := by rw [flat_len oCells_len, List.length_drop]
 have hs1 : (spl cs (i * 4) ((l.drop (i + 1)).flatMap oCells)).length = c * 4 := by rw [spl_len (by rw [hnl]; omega), hl]
 refine ⟨rfl, own_mk (row_setRow HR1.out) hb (by omega) hcm ?_ ?_, _, (Later.refl _).drew, HO1.out.trans (only_setRow _ _ _)⟩
 ·rw [spl_len (by rw [hs1]; simp [Builtin.zeroCells]; omega), hs1]
 ·rw [spl_take (Nat.le_refl _) (by omega), show (l.length - 1) * 4 = i * 4 + ((l.drop (i + 1)).flatMap oCells).length by rw [hnl]; omega, spl_take2 (by rw [hnl]; omega), List.flatMap_append, <- flat_take oCells_len, <- HX.out, List.take_take, Nat.min_eq_left (by omega)]
end Go.Proofs.YtncbebfhakcgdaaGreat
namespace Go.Proofs.YtncbebfhakcgdaaGreat
open Go.RowKit Go.Shelf
attribute [local go_sem ↓] Go.wp_at_zero Go.wp_at_succ
theorem own_some {w : World} {base : Nat} {T : TypeId} {size n m c : Nat} {A : Option Addr} {xs : List Value} (h : w.ownsRow base T size (.slice A n c) m xs) (h0 : 0 < m) : ∃ g, A = some ⟨g, 0, none⟩ := by
 obtain ⟨-, h⟩ := h
 rcases h with ⟨-, h2⟩ | ⟨g, cap, cur, h1, -⟩
 ·omega
 ·injection h1 with h1; exact ⟨g, h1⟩
theorem take_drop_at {α : Type} {l : List α} {i : Nat} {x : α} (h : l[i]? = some x) : l = l.take i ++ x :: l.drop (i + 1) := by
 obtain ⟨hi, e⟩ := List.getElem?_eq_some_iff.1 h
 have h2 : l.drop i = x :: l.drop (i + 1) := by rw [List.drop_eq_getElem_cons hi, e]
 rw [<- h2, List.take_append_drop]
theorem ord_drop {l : List POrd} (hp : l.Pairwise fun a b => a.id < b.id) {i : Nat} {x : POrd} (h : l[i]? = some x) : l.filter (fun y => decide (y.id ≠ x.id)) = l.take i ++ l.drop (i + 1) := by
 have e := take_drop_at h
 have hp2 := hp
 rw [e, List.pairwise_append] at hp2
 obtain ⟨p1, p2, p3⟩ := hp2
 obtain ⟨p4, p5⟩ := List.pairwise_cons.1 p2
 conv => lhs; rw [e]
 rw [List.filter_append, List.filter_cons, if_neg (by simp), filt_all (fun y hy => by have := p3 y hy x (by simp); simp; omega), filt_all (fun y hy => by have := p4 y hy; simp; omega)]
theorem KIn.stepO {w0 w w' : World} {G : Nat} {A1 A2 A3 A4 A' : Option Addr} {n1 n2 n3 n4 c1 c2 c3 c4 n' c' : Nat} {D : PBook} (h : KIn w0 w G A1 A2 A3 A4 n1 n2 n3 n4 c1 c2 c3 c4 D) (hg : w.grownBy w' (Value.slice A3 n3 c3).ownBlock) (l : List POrd) (ho : w'.ownsRow w0.heap.size 29 4 (.slice A' n' c') l.length (l.flatMap oCells))
 (hf : ∀ k, (Value.slice A' n' c').ownBlock = some k -> (Value.slice A3 n3 c3).ownBlock = some k ∨ w.heap.size <= k) : KIn w0 (w'.setCell ⟨G, 4, none⟩ (.slice A' n' c')) G A1 A2 A' A4 n1 n2 n' n4 c1 c2 c' c4 { D with ords := l } := by
 have hG : ∀ k, (Value.slice A' n' c').ownBlock = some k -> k ≠ G := fun k hk => by
  rcases hf k hk with e | e
  ·exact h.bO k e
  ·have := h.row.lt; omega
 have lt : Later w0 (w'.setCell ⟨G, 4, none⟩ (.slice A' n' c')) := (h.own.lt.grown hg (fun k hk => (World.ownsRow.lt h.own.ords k hk).1)).setCell h.lo _
 have rk : Row w' G 75 [.slice A1 n1 c1, .int .i64 D.hor, .int .i64 D.now, .slice A2 n2 c2, .slice A3 n3 c3, .slice A4 n4 c4] := h.row.grown hg (fun e => by have := h.bO G e.symm; omega)
 obtain ⟨es, h1, h2⟩ := h.own.its
 exact ⟨{ lt := lt, its := ⟨es, h1, own_only (own_kept h2 hg (h.own.aIO)) (Only.one G w' 4 _) h.bI⟩, caps := own_only (own_kept h.own.caps hg (h.own.aCO)) (Only.one G w' 4 _) h.bC, ords := own_only ho (Only.one G w' 4 _) hG, mks := own_only (own_kept h.own.mks hg (h.own.aOM.symm)) (Only.one G w' 4 _) h.bM, aIC := h.own.aIC, aIO := (fun k h3 h4 => by rcases hf k h4 with e | e; exact h.own.aIO k h3 e; have := (World.ownsRow.lt h2 k h3).2; omega), aIM := h.own.aIM, aCO := (fun k h3 h4 => by rcases hf k h4 with e | e; exact h.own.aCO k h3 e; have := (World.ownsRow.lt h.own.caps k h3).2; omega), aCM := h.own.aCM, aOM := ApartV.symm (fun k h3 h4 => by rcases hf k h4 with e | e; exact h.own.aOM.symm k h3 e; have := (World.ownsRow.lt h.own.mks k h3).2; omega) }, rk.set_ 4 _, h.lo, h.bI, h.bC, hG, h.bM⟩
theorem KIn.stepC {w0 w w' : World} {G : Nat} {A1 A2 A3 A4 A' : Option Addr} {n1 n2 n3 n4 c1 c2 c3 c4 n' c' : Nat} {D : PBook} (h : KIn w0 w G A1 A2 A3 A4 n1 n2 n3 n4 c1 c2 c3 c4 D) (hg : w.grownBy w' (Value.slice A2 n2 c2).ownBlock) (l : List Int) (ho : w'.ownsRow w0.heap.size 3 1 (.slice A' n' c') l.length (l.flatMap iCells))
 (hf : ∀ k, (Value.slice A' n' c').ownBlock = some k -> (Value.slice A2 n2 c2).ownBlock = some k ∨ w.heap.size <= k) : KIn w0 (w'.setCell ⟨G, 3, none⟩ (.slice A' n' c')) G A1 A' A3 A4 n1 n' n3 n4 c1 c' c3 c4 { D with caps := l } := by
 have hG : ∀ k, (Value.slice A' n' c').ownBlock = some k -> k ≠ G := fun k hk => by
  rcases hf k hk with e | e
  ·exact h.bC k e
  ·have := h.row.lt; omega
 have lt : Later w0 (w'.setCell ⟨G, 3, none⟩ (.slice A' n' c')) := (h.own.lt.grown hg (fun k hk => (World.ownsRow.lt h.own.caps k hk).1)).setCell h.lo _
 have rk : Row w' G 75 [.slice A1 n1 c1, .int .i64 D.hor, .int .i64 D.now, .slice A2 n2 c2, .slice A3 n3 c3, .slice A4 n4 c4] := h.row.grown hg (fun e => by have := h.bC G e.symm; omega)
 obtain ⟨es, h1, h2⟩ := h.own.its
 exact ⟨{ lt := lt, its := ⟨es, h1, own_only (own_kept h2 hg (h.own.aIC)) (Only.one G w' 3 _) h.bI⟩, caps := own_only ho (Only.one G w' 3 _) hG, ords := own_only (own_kept h.own.ords hg (h.own.aCO.symm)) (Only.one G w' 3 _) h.bO, mks := own_only (own_kept h.own.mks hg (h.own.aCM.symm)) (Only.one G w' 3 _) h.bM, aIC := (fun k h3 h4 => by rcases hf k h4 with e | e; exact h.own.aIC k h3 e; have := (World.ownsRow.lt h2 k h3).2; omega), aIO := h.own.aIO, aIM := h.own.aIM, aCO := ApartV.symm (fun k h3 h4 => by rcases hf k h4 with e | e; exact h.own.aCO.symm k h3 e; have := (World.ownsRow.lt h.own.ords k h3).2; omega), aCM := ApartV.symm (fun k h3 h4 => by rcases hf k h4 with e | e; exact h.own.aCM.symm k h3 e; have := (World.ownsRow.lt h.own.mks k h3).2; omega), aOM := h.own.aOM }, rk.set_ 3 _, h.lo, h.bI, hG, h.bO, h.bM⟩
theorem KIn.stepM {w0 w w' : World} {G : Nat} {A1 A2 A3 A4 A' : Option Addr} {n1 n2 n3 n4 c1 c2 c3 c4 n' c' : Nat} {D : PBook} (h : KIn w0 w G A1 A2 A3 A4 n1 n2 n3 n4 c1 c2 c3 c4 D) (hg : w.grownBy w' (Value.slice A4 n4 c4).ownBlock) (l : List PMk) (ho : w'.ownsRow w0.heap.size 43 3 (.slice A' n' c') l.length (l.flatMap mCells))
 (hf : ∀ k, (Value.slice A' n' c').ownBlock = some k -> (Value.slice A4 n4 c4).ownBlock = some k ∨ w.heap.size <= k) : KIn w0 (w'.setCell ⟨G, 5, none⟩ (.slice A' n' c')) G A1 A2 A3 A' n1 n2 n3 n' c1 c2 c3 c' { D with mks := l } := by
 have hG : ∀ k, (Value.slice A' n' c').ownBlock = some k -> k ≠ G := fun k hk => by
  rcases hf k hk with e | e
  ·exact h.bM k e
  ·have := h.row.lt; omega
 have lt : Later w0 (w'.setCell ⟨G, 5, none⟩ (.slice A' n' c')) := (h.own.lt.grown hg (fun k hk => (World.ownsRow.lt h.own.mks k hk).1)).setCell h.lo _
 have rk : Row w' G 75 [.slice A1 n1 c1, .int .i64 D.hor, .int .i64 D.now, .slice A2 n2 c2, .slice A3 n3 c3, .slice A4 n4 c4] := h.row.grown hg (fun e => by have := h.bM G e.symm; omega)
 obtain ⟨es, h1, h2⟩ := h.own.its
 exact ⟨{ lt := lt, its := ⟨es, h1, own_only (own_kept h2 hg (h.own.aIM)) (Only.one G w' 5 _) h.bI⟩, caps := own_only (own_kept h.own.caps hg (h.own.aCM)) (Only.one G w' 5 _) h.bC, ords := own_only (own_kept h.own.ords hg (h.own.aOM)) (Only.one G w' 5 _) h.bO, mks := own_only ho (Only.one G w' 5 _) hG, aIC := h.own.aIC, aIO := h.own.aIO, aIM := (fun k h3 h4 => by rcases hf k h4 with e | e; exact h.own.aIM k h3 e; have := (World.ownsRow.lt h2 k h3).2; omega), aCO := h.own.aCO, aCM := (fun k h3 h4 => by rcases hf k h4 with e | e; exact h.own.aCM k h3 e; have := (World.ownsRow.lt h.own.caps k h3).2; omega), aOM := (fun k h3 h4 => by rcases hf k h4 with e | e; exact h.own.aOM k h3 e; have := (World.ownsRow.lt h.own.ords k h3).2; omega) }, rk.set_ 5 _, h.lo, h.bI, h.bC, h.bO, hG⟩
theorem KIn.putO {w0 w w' : World} {G : Nat} {A1 A2 A3 A4 A' : Option Addr} {n1 n2 n3 n4 c1 c2 c3 c4 n' c' : Nat} {D : PBook} (h : KIn w0 w G A1 A2 A3 A4 n1 n2 n3 n4 c1 c2 c3 c4 D) (hg : w.grownBy w' (Value.slice A3 n3 c3).ownBlock) (l : List POrd) (ho : w'.ownsRow w0.heap.size 29 4 (.slice A' n' c') l.length (l.flatMap oCells))
 (hf : ∀ k, (Value.slice A' n' c').ownBlock = some k -> (Value.slice A3 n3 c3).ownBlock = some k ∨ w.heap.size <= k) (hm : MayP { D with ords := l }) (r : Except Int PBook) (hr : r = .ok { D with ords := l }) : KeepP w0 G r (.returned (.tuple #[])) (w'.setCell ⟨G, 4, none⟩ (.slice A' n' c')) := by
 have hs := h.stepO hg l ho hf
 refine ⟨hs.own.lt, ?_⟩
 rw [hr]
 exact ⟨rfl, hm, _, _, _, _, _, _, _, _, _, _, _, _, hs⟩
theorem grown_only {w w1 w' : World} {g : Nat} (h : Later w w1) (o : Only g w1 w') : w.grownBy w' (some g) := ⟨o.os.trans h.os, o.tape.trans h.tape, o.output.trans h.output, by rw [o.size]; exact h.size, fun b hb hne => (o.block b (fun e => hne (by rw [e]))).trans (h.block b hb)⟩
set_option maxHeartbeats 4000000 in
theorem can1_calls (w : World) (x : POrd) (G Gi : Nat) (id : Int) (cs : List Value) (hg : Row w G 31 cs) (h5 : cs[5]? = some (.int .i64 id)) :
 Calls Tryz.prog 77 #[.agg #[.int .i64 x.id, .int .i64 x.item, .int .i64 x.due, .int .i64 x.qty], .pointer (some ⟨G, 0, none⟩)] w (RetV w (.bool (decide (x.id = id)))) := by
 have HG := hide hg; have H5 := hide h5
 clear hg h5
 obtain ⟨W0, hW0⟩ : ∃ W0, W0 = (w.alloc (Obj.cells #[Value.int .i64 x.id, Value.int .i64 x.item, Value.int .i64 x.due, Value.int .i64 x.qty] 29)) := ⟨_, rfl⟩
 have B0 := hide (show Later w W0 by rw [hW0]; exact (Later.refl _).alloc _)
 have HR0 := hide (show Row W0 w.heap.size 29 [.int .i64 x.id, .int .i64 x.item, .int .i64 x.due, .int .i64 x.qty] by rw [hW0]; exact Row.new _ _ _)
 have HW0 := hide hW0
 clear hW0
 go_enter Tryz.func77, Tryz.ntmps77
 go_upto_region 1 with fail
 rw [<- HW0.out]
 have d0 := HR0.out.cell (i := 0) rfl
 have g5 := (HG.out.later B0.out).cell (i := 5) H5.out
 go_wp2_with fail
 go_ret
 exact ⟨by first | rfl | simp | (simp; rfl), B0.out⟩
set_option maxHeartbeats 1000000 in
theorem cancel_calls (w : World) (w0 : World) (G : Nat) (A1 A2 A3 A4 Aq : Option Addr) (n1 n2 n3 n4 nq c1 c2 c3 c4 cq : Nat) (D : PBook) (o : POp) (hK : KIn w0 w G A1 A2 A3 A4 n1 n2 n3 n4 c1 c2 c3 c4 D) (hmay : MayP D) :
 Calls Tryz.prog 34 #[.pointer (some ⟨G, 0, none⟩), .agg #[.int .i64 o.kind, .int .i64 o.ord.id, .int .i64 o.ord.item, .int .i64 o.ord.due, .int .i64 o.ord.qty, .int .i64 o.id, .int .i64 o.period, .int .i64 o.qty, .slice Aq nq cq]] w (KeepP w0 G (canV D o.id)) := by
 have HK := hide hK; have HMY := hide hmay
 clear hK hmay
 obtain ⟨W0, hW0⟩ : ∃ W0, W0 = (w.alloc (Obj.cells #[Value.int .i64 o.kind, Value.int .i64 o.ord.id, Value.int .i64 o.ord.item, Value.int .i64 o.ord.due, Value.int .i64 o.ord.qty, Value.int .i64 o.id, Value.int .i64 o.period, Value.int .i64 o.qty, Value.slice Aq nq cq] 31)) := ⟨_, rfl⟩
 have B0 := hide (show Later w W0 by rw [hW0]; exact (Later.refl _).alloc _)
 have HR0 := hide (show Row W0 w.heap.size 31 [.int .i64 o.kind, .int .i64 o.ord.id, .int .i64 o.ord.item, .int .i64 o.ord.due, .int .i64 o.ord.qty, .int .i64 o.id, .int .i64 o.period, .int .i64 o.qty, .slice Aq nq cq] by rw [hW0]; exact Row.new _ _ _)
 have HW0 := hide hW0
 clear hW0
 go_enter Tryz.func34, Tryz.ntmps34
 go_upto_region 1 with fail
 rw [<- HW0.out]
 have hk := HK.out.later B0.out
 have d4 := hk.row.cell (i := 4) rfl
 have HN := hide (own_len3 hk.own.ords)
 have hml := HMY.out.ol
 have hmf := mkF
 go_upto_region 2 with (first | (go_at_call 76; refine (idxO1_calls _ _ D.ords (Sq.of_own oCells_len hk.own.ords) (by omega) _ ⟨fun _ _ => by kernel_rfl⟩ w.heap.size (fun x => decide (x.id = o.id)) (fun W x hW _ => can1_calls W x w.heap.size 0 o.id _ (HR0.out.later hW) rfl)).mono ?_; rintro e w1 ⟨z, rfl, hz, b1⟩))
 rcases hz with ⟨rfl, hz⟩ | ⟨i, x, rfl, hxi, hxp, hz⟩
 ·have HV : Hid (canV D o.id = .error 8) := hide (by unfold canV; rw [if_pos (List.any_eq_false.2 fun y hy => by have := hz y hy; simpa using this)])
  clear hz
  go_wp2_with (go_at_call 29; refine (must_no _ _).mono ?_; rintro e w' ⟨rfl, rfl⟩)
  exact ⟨rfl, hk.own.lt.trans b1, by rw [HV.out]⟩
 ·have hil := (List.getElem?_eq_some_iff.1 hxi).1
  have hid : x.id = o.id := by simpa using hxp
  obtain ⟨g3, rfl⟩ := own_some hk.own.ords (by omega)
  have L2 : Hid (Later w0 w1) := hide (hk.own.lt.trans b1)
  have hk1 := hk.later b1
  have HSQ := hide (Sq.of_own oCells_len hk1.own.ords)
  obtain ⟨b3, off3, ha3, hx3⟩ := HSQ.out.at_ hxi
  injection ha3 with ha3; injection ha3 with ha3 ha4
  subst ha3 ha4
  have x2 := hx3 2 _ rfl
  rw [Nat.zero_add] at x2
  have HT1 : Hid (∀ w', Later w1 w' -> w'.cell? ⟨G, 4, none⟩ = some (.slice (some ⟨g3, 0, none⟩) n3 c3) /\ w'.cell? ⟨g3, i * 4 + 2, none⟩ = some (.int .i64 x.due) /\ w'.cell? ⟨G, 2, none⟩ = some (.int .i64 D.now)) := hide fun w' hb => ⟨(hk1.row.later hb).cell rfl, Later.cell hb x2, (hk1.row.later hb).cell rfl⟩
  have t0 : decide (0 <= (i : Int)) = true := by simp
  have hin : (i : Int) < n3 := by have := HN.out.1; omega
  have hi0 : (0 : Int) <= (i : Int) := by omega
  clear hx3 x2 hz d4
  go_upto_region 3 with (go_at_call 29; refine (must_yes _ _).mono ?_; rintro e w' ⟨rfl, rfl⟩)
  have hmx : Tryz.prog.follows .mixedOrders = true := by kernel_rfl
  by_cases g : x.due < D.now
  ·have t3 : decide (D.now <= x.due) = false := by simp; omega
   have HV : Hid (canV D o.id = .error 13) := hide (by
    unfold canV
    rw [if_neg (by rw [List.any_eq_true.2 ⟨x, List.mem_of_getElem? hxi, hxp⟩]; simp), if_pos (List.any_eq_true.2 ⟨x, List.mem_of_getElem? hxi, by simp; exact ⟨hid, g⟩⟩)])
   refine wp_region_N (fun w' => w'.cell? ⟨G, 4, none⟩ = some (.slice (some ⟨g3, 0, none⟩) n3 c3) /\ w'.cell? ⟨g3, i * 4 + 2, none⟩ = some (.int .i64 x.due) /\ w'.cell? ⟨G, 2, none⟩ = some (.int .i64 D.now)) [] hmx (HT1.out _ lt_) (fun hHeld => ?_)
   refine tkB 15 0 ?_
   refine tkB 16 1 ?_
   refine tkB 17 2 ?_
   refine tkB 18 3 ?_
   refine tkB 19 4 ?_
   refine tkB 20 5 ?_
   refine tkB 21 6 ?_
   refine tkB 22 7 ?_
   refine tkB 23 8 ?_
   refine tkB 24 9 ?_
   refine tkB 25 10 ?_
   refine tkB 26 11 ?_
   refine tkB 27 12 ?_
   refine tkB 28 13 ?_
   refine tkB 29 14 ?_
   refine wpAnyN_ready (rs := [15]) (by kernel_rfl) (by simp) ?_
   refine AllReadyN.held rfl (by rfl) (fun K hK => ?_) AllReadyN.nil
   go_simp
   refine (must_no _ _).mono ?_
   rintro e w2 ⟨rfl, rfl⟩
   exact ⟨rfl, L2.out.drew, by rw [HV.out]⟩
  ·have t3 : decide (D.now <= x.due) = true := by simp; omega
   have HV : Hid (canV D o.id = .ok { D with ords := D.ords.take i ++ D.ords.drop (i + 1) }) := hide (by
    unfold canV
    rw [if_neg (by rw [List.any_eq_true.2 ⟨x, List.mem_of_getElem? hxi, hxp⟩]; simp), if_neg (by
     intro e
     obtain ⟨y, hy, e⟩ := List.any_eq_true.1 e
     simp only [decide_eq_true_iff] at e
     have := pw_inj HMY.out.oPw hy (List.mem_of_getElem? hxi) (by rw [e.1, hid])
     subst this; exact g e.2), <- ord_drop HMY.out.oPw hxi, hid])
   have hk2 := hk1.later (show Later w1 w1.drew from (Later.refl _).drew)
   refine wp_region_N (fun w' => w'.cell? ⟨G, 4, none⟩ = some (.slice (some ⟨g3, 0, none⟩) n3 c3) /\ w'.cell? ⟨g3, i * 4 + 2, none⟩ = some (.int .i64 x.due) /\ w'.cell? ⟨G, 2, none⟩ = some (.int .i64 D.now)) [] hmx (HT1.out _ lt_) (fun hHeld => ?_)
   refine tkB 15 0 ?_
   refine tkB 16 1 ?_
   refine tkB 17 2 ?_
   refine tkB 18 3 ?_
   refine tkB 19 4 ?_
   refine tkB 20 5 ?_
   refine tkB 21 6 ?_
   refine tkB 22 7 ?_
   refine tkB 23 8 ?_
   refine tkB 24 9 ?_
   refine tkB 25 10 ?_
   refine tkB 26 11 ?_
   refine tkB 27 12 ?_
   refine tkB 28 13 ?_
   refine tkB 29 14 ?_
   refine wpAnyN_ready (rs := [15]) (by kernel_rfl) (by simp) ?_
   refine AllReadyN.held rfl (by rfl) (fun K hK => ?_) AllReadyN.nil
   go_simp
   refine (must_yes _ _).mono ?_
   rintro e w2 ⟨rfl, rfl⟩
   refine hK.out _ _ ?_ (fun hHeld => ?_)
   ·exact HT1.out _ lt_
   clear hK K
   try simp only [Act.put, s1_, s2_, s3_]
   refine wpAnyN_done (by kernel_rfl) ?_ _
   clear hHeld
   go_wp2_with (first | (go_at_call 78; (with_reducible refine (delO_calls _ w0.heap.size g3 c3 n3 D.ords i (by have := HN.out.1; omega) hk2.own.ords (by have := HMY.out.ol; omega)).mono ?_); rintro e w3 ⟨rfl, ho3, w4, hb4, hon4⟩; have hgr := grown_only hb4 hon4; have rk := hk2.row.grown hgr (fun e => by have := hk2.bO G e.symm; omega); have k4 := rk.cell (i := 4) rfl; have kz4 := rk.frozen 4; clear rk))
   go_end0
   have hlen : (D.ords.take i ++ D.ords.drop (i + 1)).length = n3 - 1 := by have := HN.out.1; simp; omega
   refine hk2.putO hgr (D.ords.take i ++ D.ords.drop (i + 1)) (by rw [hlen]; exact ho3) (fun k hk => ?_) ?_ _ HV.out
   ·exact .inl hk
   ·have hm := HMY.out
    rw [<- ord_drop hm.oPw hxi]
    refine ⟨head_of hm.head rfl rfl ⟨hm.head.t0, hm.head.t40⟩ ⟨hm.head.cl, hm.head.caps⟩, ?_, hm.ml, fun x hx => hm.ords x (List.mem_filter.1 hx).1, hm.mks, rises_of_pw (f := POrd.id) (hm.oPw.filter _), hm.mris⟩
    have := List.length_filter_le (fun y : POrd => decide (y.id ≠ x.id)) D.ords
    have := hm.ol
    dsimp only; omega
end Go.Proofs.YtncbebfhakcgdaaGreat
