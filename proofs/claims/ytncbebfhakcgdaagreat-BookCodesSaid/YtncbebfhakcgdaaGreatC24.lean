/- Books: the closure of Apply. -/
import Derived.Test.YtncbebfhakcgdaaGreatC23
import Derived.Test.YtncbebfhakcgdaaGreatC7
import Derived.Test.YtncbebfhakcgdaaGreatC13
set_option linter.unusedVariables false
set_option linter.unusedSimpArgs false
set_option maxRecDepth 100000
namespace Go.Proofs.YtncbebfhakcgdaaGreat
open Go.RowKit Go.Shelf
attribute [local go_sem ↓] Go.wp_at_zero Go.wp_at_succ
def ApP (w : World) (r : Except Int PBook) (e : Ending) (w' : World) : Prop := Later w w' /\ match r with
 | .ok D' => MayP D' /\ ∃ A1 A2 A3 A4 n1 n2 n3 n4 c1 c2 c3 c4, e = .returned (.agg #[.slice A1 n1 c1, .int .i64 D'.hor, .int .i64 D'.now, .slice A2 n2 c2, .slice A3 n3 c3, .slice A4 n4 c4]) /\ BkN w.heap.size w' (.slice A1 n1 c1) (.slice A2 n2 c2) (.slice A3 n3 c3) (.slice A4 n4 c4) D'
 | .error c => e = .panicked (Pan c)
theorem apply1_end {w W0 w6 : World} {G : Nat} {A1 A2 A3 A4 : Option Addr} {n1 n2 n3 n4 c1 c2 c3 c4 : Nat} {D D' : PBook} {o : POp} (hr : Row w6 w.heap.size 27 [.slice none 0 0, .int .i64 0, .int .i64 0, .slice none 0 0, .slice none 0 0, .slice none 0 0]) (hk : KIn W0 w6 G A1 A2 A3 A4 n1 n2 n3 n4 c1 c2 c3 c4 D') (hm : MayP D') (hl : Later W0 w6) (hb : Later w W0) (e : applyV D o = .ok D') :
 ApP w (applyV D o) (.returned (.agg #[.slice A1 n1 c1, .int .i64 D'.hor, .int .i64 D'.now, .slice A2 n2 c2, .slice A3 n3 c3, .slice A4 n4 c4])) (((((((w6.setCell ⟨w.heap.size, 0, none⟩ (.slice A1 n1 c1)).setCell ⟨w.heap.size, 1, none⟩ (.int .i64 D'.hor)).setCell ⟨w.heap.size, 2, none⟩ (.int .i64 D'.now)).setCell ⟨w.heap.size, 3, none⟩ (.slice A2 n2 c2)).setCell ⟨w.heap.size, 4, none⟩ (.slice A3 n3 c3)).setCell ⟨w.heap.size, 5, none⟩ (.slice A4 n4 c4))) := by
 have oo := only6 (W := w6) w.heap.size (.slice A1 n1 c1) (.int .i64 D'.hor) (.int .i64 D'.now) (.slice A2 n2 c2) (.slice A3 n3 c3) (.slice A4 n4 c4)
 refine ⟨(hb.trans hl).only oo (Nat.le_refl _), ?_⟩
 rw [e]
 exact ⟨hm, A1, A2, A3, A4, n1, n2, n3, n4, c1, c2, c3, c4, rfl, (hk.own.bkn hb.size).box (IsBox.book hr) oo⟩
set_option maxHeartbeats 4000000 in
theorem apply1_calls (w : World) (gb go : Nat) (A1 A2 A3 A4 Aq : Option Addr) (n1 n2 n3 n4 nq c1 c2 c3 c4 cq : Nat) (D : PBook) (o : POp) (hb : Row w gb 27 [.slice A1 n1 c1, .int .i64 D.hor, .int .i64 D.now, .slice A2 n2 c2, .slice A3 n3 c3, .slice A4 n4 c4]) (ho : Row w go 31 [.int .i64 o.kind, .int .i64 o.ord.id, .int .i64 o.ord.item, .int .i64 o.ord.due, .int .i64 o.ord.qty, .int .i64 o.id, .int .i64 o.period, .int .i64 o.qty, .slice Aq nq cq]) (h : BookIn w (.slice A1 n1 c1) (.slice A2 n2 c2) (.slice A3 n3 c3) (.slice A4 n4 c4) D) (hfit : o.ord.fit) (hQ : Sq 1 iCells w (.slice Aq nq cq) o.qtys) (hnq : nq = o.qtys.length) (hql : o.qtys.length <= 1000) :
 Calls Tryz.prog 28 #[.pointer (some ⟨gb, 0, none⟩), .pointer (some ⟨go, 0, none⟩)] w (ApP w (applyV D o)) := by
 have HRB := hide hb; have HRO := hide ho; have HB := hide h; have HFT := hide hfit; have HQ := hide hQ; have HNQ := hide hnq; have HQL := hide hql
 clear hb ho h hfit hQ hnq hql
 obtain ⟨W0, hW0⟩ : ∃ W0, W0 = (w.alloc (Obj.cells #[Value.slice none 0 0, Value.int .i64 0, Value.int .i64 0, Value.slice none 0 0, Value.slice none 0 0, Value.slice none 0 0] 27)) := ⟨_, rfl⟩
 obtain ⟨hb0, r0, hsz0⟩ := boxes1 w [.slice none 0 0, .int .i64 0, .int .i64 0, .slice none 0 0, .slice none 0 0, .slice none 0 0] 27 hW0
 have B0 := hide hb0; have HW0 := hide hW0; have HSZ0 := hide hsz0
 have R0 := hide r0
 clear hb0 hW0 hsz0 r0
 go_enter Tryz.func28, Tryz.ntmps28
 go_upto_region 1 with fail
 rw [<- HW0.out]
 have lw := B0.out
 have rb := HRB.out.later lw; have ro := HRO.out.later lw
 have d0 := rb.cell (i := 0) rfl; have d1 := rb.cell (i := 1) rfl; have d2 := rb.cell (i := 2) rfl; have d3 := rb.cell (i := 3) rfl; have d4 := rb.cell (i := 4) rfl; have d5 := rb.cell (i := 5) rfl
 by_cases hm : mayB D = true
 ·have HM := hide hm
  clear rb ro
  obtain ⟨up, hup⟩ : ∃ u, plainB o = u := ⟨_, rfl⟩
  have HPL : Hid (∀ W : World, Calls Tryz.prog 31 #[.agg #[.int .i64 o.kind, .int .i64 o.ord.id, .int .i64 o.ord.item, .int .i64 o.ord.due, .int .i64 o.ord.qty, .int .i64 o.id, .int .i64 o.period, .int .i64 o.qty, .slice Aq nq cq]] W (RetV W (.bool up))) := hide fun W => by have h := bplain_calls W Aq nq cq o HNQ.out; rw [hup] at h; exact h
  have HUP := hide hup
  clear hup hm
  cases up with
  | false =>
    have HV : Hid (applyV D o = .error 1) := hide (by unfold applyV; rw [if_pos (.inr HUP.out)])
    go_wp2_with (first | (go_at_call 30; (with_reducible refine (plmay_calls _ A1 A2 A3 A4 n1 n2 n3 n4 c1 c2 c3 c4 D (HB.out.later lt_) true HM.out).mono ?_); rintro e w1 ⟨rfl, b1⟩; have ro := HRO.out.later (B0.out.trans b1); have x0 := ro.cell (i := 0) rfl; have x1 := ro.cell (i := 1) rfl; have x2 := ro.cell (i := 2) rfl; have x3 := ro.cell (i := 3) rfl; have x4 := ro.cell (i := 4) rfl; have x5 := ro.cell (i := 5) rfl; have x6 := ro.cell (i := 6) rfl; have x7 := ro.cell (i := 7) rfl; have x8 := ro.cell (i := 8) rfl; clear ro) | (go_at_call 31; (with_reducible refine (HPL.out _).mono ?_); rintro e w2 ⟨rfl, b2⟩) | (go_at_call 29; refine (must_no _ _).mono ?_; rintro e w' ⟨rfl, rfl⟩))
    exact ⟨rfl, (lw.trans b1).trans b2, by rw [HV.out]⟩
  | true =>
    go_upto_region 2 with (first | (go_at_call 30; (with_reducible refine (plmay_calls _ A1 A2 A3 A4 n1 n2 n3 n4 c1 c2 c3 c4 D (HB.out.later lt_) true HM.out).mono ?_); rintro e w1 ⟨rfl, b1⟩; have ro := HRO.out.later (B0.out.trans b1); have x0 := ro.cell (i := 0) rfl; have x1 := ro.cell (i := 1) rfl; have x2 := ro.cell (i := 2) rfl; have x3 := ro.cell (i := 3) rfl; have x4 := ro.cell (i := 4) rfl; have x5 := ro.cell (i := 5) rfl; have x6 := ro.cell (i := 6) rfl; have x7 := ro.cell (i := 7) rfl; have x8 := ro.cell (i := 8) rfl; clear ro) | (go_at_call 31; (with_reducible refine (HPL.out _).mono ?_); rintro e w2 ⟨rfl, b2⟩) | (go_at_call 29; refine (must_yes _ _).mono ?_; rintro e w' ⟨rfl, rfl⟩))
    have l2 := b1.trans b2
    have L2 := hide l2
    have rb := HRB.out.later (lw.trans l2)
    clear x0 x1 x2 x3 x4 x5 x6 x7 x8 d0 d1 d2 d3 d4 d5 l2 b1 b2 lw
    have d0 := rb.cell (i := 0) rfl; have d1 := rb.cell (i := 1) rfl; have d2 := rb.cell (i := 2) rfl; have d3 := rb.cell (i := 3) rfl; have d4 := rb.cell (i := 4) rfl; have d5 := rb.cell (i := 5) rfl
    clear rb
    go_upto_region 3 with (go_at_call 32; (with_reducible refine (own_calls _ W0 A1 A2 A3 A4 n1 n2 n3 n4 c1 c2 c3 c4 D (HB.out.later B0.out) L2.out).mono ?_); rintro e w3 ⟨vI, vC, vO, vM, rfl, HO⟩)
    obtain ⟨es, hs1, hs2⟩ := HO.its
    obtain ⟨B1, k1, rfl⟩ := own_form hs2
    obtain ⟨B2, k2, rfl⟩ := own_form HO.caps
    obtain ⟨B3, k3, rfl⟩ := own_form HO.ords
    obtain ⟨B4, k4, rfl⟩ := own_form HO.mks
    obtain ⟨W4, hW4⟩ : ∃ W4, W4 = (w3.alloc (Obj.cells #[.slice B1 D.items.length k1, .int .i64 D.hor, .int .i64 D.now, .slice B2 D.caps.length k2, .slice B3 D.ords.length k3, .slice B4 D.mks.length k4] 75)) := ⟨_, rfl⟩
    obtain ⟨G, hG⟩ : ∃ G, G = w3.heap.size := ⟨_, rfl⟩
    rw [<- hW4, <- hG]
    have l4 : Later w3 W4 := by rw [hW4]; exact (Later.refl _).alloc _
    have HK : Hid (KIn W0 W4 G B1 B2 B3 B4 D.items.length D.caps.length D.ords.length D.mks.length k1 k2 k3 k4 D) := hide (by
     refine ⟨HO.later l4, by rw [hW4, hG]; exact Row.new _ _ _, by rw [hG]; exact HO.lt.size, fun k hk => ?_, fun k hk => ?_, fun k hk => ?_, fun k hk => ?_⟩
     ·have := (World.ownsRow.lt hs2 k hk).2; omega
     ·have := (World.ownsRow.lt HO.caps k hk).2; omega
     ·have := (World.ownsRow.lt HO.ords k hk).2; omega
     ·have := (World.ownsRow.lt HO.mks k hk).2; omega)
    have hF := five W4 (.pointer (some ⟨G, 0, none⟩))
    obtain ⟨u1, u2, u3, u4, u5, e1, e2, e3, e4, e5, hg5, q1, q2, q3, q4, q5⟩ := hF
    have l5 : Later W4 u5 := (Later.refl _).grown hg5 (fun k hk => by cases hk)
    have HK5 : Hid (∀ W, Later u5 W -> KIn W0 W G B1 B2 B3 B4 D.items.length D.caps.length D.ords.length D.mks.length k1 k2 k3 k4 D) := hide (fun W h => HK.out.later (l5.trans h))
    have L05 : Hid (Later W0 u5) := hide ((HO.lt.trans l4).trans l5)
    have HRR9 := hide (HRO.out.later (B0.out.trans L05.out))
    clear hg5 l5 hW4 hG l4 hs1 hs2
    have hmf := mkF
    have hmm := @run_makeMap Tryz.prog
    obtain ⟨r, hr⟩ : ∃ r, applyV D o = r := ⟨_, rfl⟩
    have HR := hide hr
    clear hr
    have hkd : o.kind = 1 ∨ o.kind = 2 ∨ o.kind = 3 ∨ o.kind = 4 ∨ o.kind = 5 := by have h := (plainB_bare o).1 HUP.out; omega
    rcases hkd with hk | hk | hk | hk | hk
    ·have HC : Hid (∀ W, Later u5 W -> Calls Tryz.prog 33 #[.pointer (some ⟨G, 0, none⟩), .agg #[.int .i64 1, .int .i64 o.ord.id, .int .i64 o.ord.item, .int .i64 o.ord.due, .int .i64 o.ord.qty, .int .i64 o.id, .int .i64 o.period, .int .i64 o.qty, .slice Aq nq cq]] W (KeepP W0 G r)) := hide (fun W h => by
      have h2 := order_calls W W0 G B1 B2 B3 B4 Aq D.items.length D.caps.length D.ords.length D.mks.length nq k1 k2 k3 k4 cq D o (HK5.out W h) (mayB_iff.1 HM.out) HFT.out
      have h3 : ordV D o.ord = r := by rw [<- HR.out]; unfold applyV; rw [if_neg (by rw [HM.out, HUP.out]; simp), if_pos hk]
      rw [h3, hk] at h2; exact h2)
     have rr9 := HRR9.out
     rw [hk] at rr9
     have d0 := rr9.cell (i := 0) rfl; have d1 := rr9.cell (i := 1) rfl; have d2 := rr9.cell (i := 2) rfl; have d3 := rr9.cell (i := 3) rfl; have d4 := rr9.cell (i := 4) rfl; have d5 := rr9.cell (i := 5) rfl; have d6 := rr9.cell (i := 6) rfl; have d7 := rr9.cell (i := 7) rfl; have d8 := rr9.cell (i := 8) rfl
     clear rr9
     cases r with
     | error c =>
       go_wp2_with (go_at_call 33; (refine (HC.out _ (Later.refl _)).mono ?_); rintro e w6 h6; obtain ⟨lw6, rfl⟩ := h6)
       exact ⟨rfl, B0.out.trans lw6, by rw [HR.out]⟩
     | ok D' =>
       go_upto_region 4 with (go_at_call 33; (refine (HC.out _ (Later.refl _)).mono ?_); rintro e w6 h6; obtain ⟨lw6, rfl, hm6, E1, E2, E3, E4, m1, m2, m3, m4, y1, y2, y3, y4, hk6⟩ := h6)
       have rk6 := hk6.row
       have r06 := R0.out.later lw6
       have HRX := hide r06; have HK6 := hide hk6; have HM6 := hide hm6; have LW6 := hide lw6
       clear hk6 hm6 lw6 d0 d1 d2 d3 d4 d5 d6 d7 d8 q1
       have p0 := rk6.cell (i := 0) rfl; have p1 := rk6.cell (i := 1) rfl; have p2 := rk6.cell (i := 2) rfl; have p3 := rk6.cell (i := 3) rfl; have p4 := rk6.cell (i := 4) rfl; have p5 := rk6.cell (i := 5) rfl
       have z0 := r06.cell (i := 0) rfl; have zz0 := r06.frozen 0; have z1 := r06.cell (i := 1) rfl; have zz1 := r06.frozen 1; have z2 := r06.cell (i := 2) rfl; have zz2 := r06.frozen 2; have z3 := r06.cell (i := 3) rfl; have zz3 := r06.frozen 3; have z4 := r06.cell (i := 4) rfl; have zz4 := r06.frozen 4; have z5 := r06.cell (i := 5) rfl; have zz5 := r06.frozen 5
       clear rk6 r06
       go_wp2_with fail
       refine bodyPost_ret (results_bk rfl rfl (HRX.out.put6 _ _ _ _ _ _)) rfl ?_
       exact apply1_end HRX.out HK6.out HM6.out LW6.out B0.out HR.out
    ·have HC : Hid (∀ W, Later u5 W -> Calls Tryz.prog 34 #[.pointer (some ⟨G, 0, none⟩), .agg #[.int .i64 2, .int .i64 o.ord.id, .int .i64 o.ord.item, .int .i64 o.ord.due, .int .i64 o.ord.qty, .int .i64 o.id, .int .i64 o.period, .int .i64 o.qty, .slice Aq nq cq]] W (KeepP W0 G r)) := hide (fun W h => by
      have h2 := cancel_calls W W0 G B1 B2 B3 B4 Aq D.items.length D.caps.length D.ords.length D.mks.length nq k1 k2 k3 k4 cq D o (HK5.out W h) (mayB_iff.1 HM.out)
      have h3 : canV D o.id = r := by rw [<- HR.out]; unfold applyV; rw [if_neg (by rw [HM.out, HUP.out]; simp), if_neg (by omega), if_pos hk]
      rw [h3, hk] at h2; exact h2)
     have rr9 := HRR9.out
     rw [hk] at rr9
     have d0 := rr9.cell (i := 0) rfl; have d1 := rr9.cell (i := 1) rfl; have d2 := rr9.cell (i := 2) rfl; have d3 := rr9.cell (i := 3) rfl; have d4 := rr9.cell (i := 4) rfl; have d5 := rr9.cell (i := 5) rfl; have d6 := rr9.cell (i := 6) rfl; have d7 := rr9.cell (i := 7) rfl; have d8 := rr9.cell (i := 8) rfl
     clear rr9
     cases r with
     | error c =>
       go_wp2_with (go_at_call 34; (refine (HC.out _ (Later.refl _)).mono ?_); rintro e w6 h6; obtain ⟨lw6, rfl⟩ := h6)
       exact ⟨rfl, B0.out.trans lw6, by rw [HR.out]⟩
     | ok D' =>
       go_upto_region 4 with (go_at_call 34; (refine (HC.out _ (Later.refl _)).mono ?_); rintro e w6 h6; obtain ⟨lw6, rfl, hm6, E1, E2, E3, E4, m1, m2, m3, m4, y1, y2, y3, y4, hk6⟩ := h6)
       have rk6 := hk6.row
       have r06 := R0.out.later lw6
       have HRX := hide r06; have HK6 := hide hk6; have HM6 := hide hm6; have LW6 := hide lw6
       clear hk6 hm6 lw6 d0 d1 d2 d3 d4 d5 d6 d7 d8 q2
       have p0 := rk6.cell (i := 0) rfl; have p1 := rk6.cell (i := 1) rfl; have p2 := rk6.cell (i := 2) rfl; have p3 := rk6.cell (i := 3) rfl; have p4 := rk6.cell (i := 4) rfl; have p5 := rk6.cell (i := 5) rfl
       have z0 := r06.cell (i := 0) rfl; have zz0 := r06.frozen 0; have z1 := r06.cell (i := 1) rfl; have zz1 := r06.frozen 1; have z2 := r06.cell (i := 2) rfl; have zz2 := r06.frozen 2; have z3 := r06.cell (i := 3) rfl; have zz3 := r06.frozen 3; have z4 := r06.cell (i := 4) rfl; have zz4 := r06.frozen 4; have z5 := r06.cell (i := 5) rfl; have zz5 := r06.frozen 5
       clear rk6 r06
       go_wp2_with fail
       refine bodyPost_ret (results_bk rfl rfl (HRX.out.put6 _ _ _ _ _ _)) rfl ?_
       exact apply1_end HRX.out HK6.out HM6.out LW6.out B0.out HR.out
    ·have HC : Hid (∀ W, Later u5 W -> Calls Tryz.prog 35 #[.pointer (some ⟨G, 0, none⟩), .agg #[.int .i64 3, .int .i64 o.ord.id, .int .i64 o.ord.item, .int .i64 o.ord.due, .int .i64 o.ord.qty, .int .i64 o.id, .int .i64 o.period, .int .i64 o.qty, .slice Aq nq cq]] W (KeepP W0 G r)) := hide (fun W h => by
      have h2 := capacity_calls W W0 G B1 B2 B3 B4 Aq D.items.length D.caps.length D.ords.length D.mks.length nq k1 k2 k3 k4 cq D o (HK5.out W h) (mayB_iff.1 HM.out)
      have h3 : capS D o.period o.qty = r := by rw [<- HR.out]; unfold applyV; rw [if_neg (by rw [HM.out, HUP.out]; simp), if_neg (by omega), if_neg (by omega), if_pos hk]
      rw [h3, hk] at h2; exact h2)
     have rr9 := HRR9.out
     rw [hk] at rr9
     have d0 := rr9.cell (i := 0) rfl; have d1 := rr9.cell (i := 1) rfl; have d2 := rr9.cell (i := 2) rfl; have d3 := rr9.cell (i := 3) rfl; have d4 := rr9.cell (i := 4) rfl; have d5 := rr9.cell (i := 5) rfl; have d6 := rr9.cell (i := 6) rfl; have d7 := rr9.cell (i := 7) rfl; have d8 := rr9.cell (i := 8) rfl
     clear rr9
     cases r with
     | error c =>
       go_wp2_with (go_at_call 35; (refine (HC.out _ (Later.refl _)).mono ?_); rintro e w6 h6; obtain ⟨lw6, rfl⟩ := h6)
       exact ⟨rfl, B0.out.trans lw6, by rw [HR.out]⟩
     | ok D' =>
       go_upto_region 4 with (go_at_call 35; (refine (HC.out _ (Later.refl _)).mono ?_); rintro e w6 h6; obtain ⟨lw6, rfl, hm6, E1, E2, E3, E4, m1, m2, m3, m4, y1, y2, y3, y4, hk6⟩ := h6)
       have rk6 := hk6.row
       have r06 := R0.out.later lw6
       have HRX := hide r06; have HK6 := hide hk6; have HM6 := hide hm6; have LW6 := hide lw6
       clear hk6 hm6 lw6 d0 d1 d2 d3 d4 d5 d6 d7 d8 q3
       have p0 := rk6.cell (i := 0) rfl; have p1 := rk6.cell (i := 1) rfl; have p2 := rk6.cell (i := 2) rfl; have p3 := rk6.cell (i := 3) rfl; have p4 := rk6.cell (i := 4) rfl; have p5 := rk6.cell (i := 5) rfl
       have z0 := r06.cell (i := 0) rfl; have zz0 := r06.frozen 0; have z1 := r06.cell (i := 1) rfl; have zz1 := r06.frozen 1; have z2 := r06.cell (i := 2) rfl; have zz2 := r06.frozen 2; have z3 := r06.cell (i := 3) rfl; have zz3 := r06.frozen 3; have z4 := r06.cell (i := 4) rfl; have zz4 := r06.frozen 4; have z5 := r06.cell (i := 5) rfl; have zz5 := r06.frozen 5
       clear rk6 r06
       go_wp2_with fail
       refine bodyPost_ret (results_bk rfl rfl (HRX.out.put6 _ _ _ _ _ _)) rfl ?_
       exact apply1_end HRX.out HK6.out HM6.out LW6.out B0.out HR.out
    ·have HC : Hid (∀ W, Later u5 W -> Calls Tryz.prog 36 #[.pointer (some ⟨G, 0, none⟩), .agg #[.int .i64 4, .int .i64 o.ord.id, .int .i64 o.ord.item, .int .i64 o.ord.due, .int .i64 o.ord.qty, .int .i64 o.id, .int .i64 o.period, .int .i64 o.qty, .slice Aq nq cq]] W (KeepP W0 G r)) := hide (fun W h => by
      have h2 := advance_calls W W0 G B1 B2 B3 B4 Aq D.items.length D.caps.length D.ords.length D.mks.length nq k1 k2 k3 k4 cq D o (HK5.out W h) (mayB_iff.1 HM.out)
      have h3 : advV D = r := by rw [<- HR.out]; unfold applyV; rw [if_neg (by rw [HM.out, HUP.out]; simp), if_neg (by omega), if_neg (by omega), if_neg (by omega), if_neg (by omega)]
      rw [h3, hk] at h2; exact h2)
     have rr9 := HRR9.out
     rw [hk] at rr9
     have d0 := rr9.cell (i := 0) rfl; have d1 := rr9.cell (i := 1) rfl; have d2 := rr9.cell (i := 2) rfl; have d3 := rr9.cell (i := 3) rfl; have d4 := rr9.cell (i := 4) rfl; have d5 := rr9.cell (i := 5) rfl; have d6 := rr9.cell (i := 6) rfl; have d7 := rr9.cell (i := 7) rfl; have d8 := rr9.cell (i := 8) rfl
     clear rr9
     cases r with
     | error c =>
       go_wp2_with (go_at_call 36; (refine (HC.out _ (Later.refl _)).mono ?_); rintro e w6 h6; obtain ⟨lw6, rfl⟩ := h6)
       exact ⟨rfl, B0.out.trans lw6, by rw [HR.out]⟩
     | ok D' =>
       go_upto_region 4 with (go_at_call 36; (refine (HC.out _ (Later.refl _)).mono ?_); rintro e w6 h6; obtain ⟨lw6, rfl, hm6, E1, E2, E3, E4, m1, m2, m3, m4, y1, y2, y3, y4, hk6⟩ := h6)
       have rk6 := hk6.row
       have r06 := R0.out.later lw6
       have HRX := hide r06; have HK6 := hide hk6; have HM6 := hide hm6; have LW6 := hide lw6
       clear hk6 hm6 lw6 d0 d1 d2 d3 d4 d5 d6 d7 d8 q4
       have p0 := rk6.cell (i := 0) rfl; have p1 := rk6.cell (i := 1) rfl; have p2 := rk6.cell (i := 2) rfl; have p3 := rk6.cell (i := 3) rfl; have p4 := rk6.cell (i := 4) rfl; have p5 := rk6.cell (i := 5) rfl
       have z0 := r06.cell (i := 0) rfl; have zz0 := r06.frozen 0; have z1 := r06.cell (i := 1) rfl; have zz1 := r06.frozen 1; have z2 := r06.cell (i := 2) rfl; have zz2 := r06.frozen 2; have z3 := r06.cell (i := 3) rfl; have zz3 := r06.frozen 3; have z4 := r06.cell (i := 4) rfl; have zz4 := r06.frozen 4; have z5 := r06.cell (i := 5) rfl; have zz5 := r06.frozen 5
       clear rk6 r06
       go_wp2_with fail
       refine bodyPost_ret (results_bk rfl rfl (HRX.out.put6 _ _ _ _ _ _)) rfl ?_
       exact apply1_end HRX.out HK6.out HM6.out LW6.out B0.out HR.out
    ·have HC : Hid (∀ W, Later u5 W -> Calls Tryz.prog 37 #[.pointer (some ⟨G, 0, none⟩), .agg #[.int .i64 5, .int .i64 o.ord.id, .int .i64 o.ord.item, .int .i64 o.ord.due, .int .i64 o.ord.qty, .int .i64 o.id, .int .i64 o.period, .int .i64 o.qty, .slice Aq nq cq]] W (KeepP W0 G r)) := hide (fun W h => by
      have h2 := commit_calls W W0 G B1 B2 B3 B4 Aq D.items.length D.caps.length D.ords.length D.mks.length nq k1 k2 k3 k4 cq D o (HK5.out W h) (mayB_iff.1 HM.out) (HQ.out.later B0.out) HQL.out
      have h3 : comV D o.period o.qtys = r := by rw [<- HR.out]; unfold applyV; rw [if_neg (by rw [HM.out, HUP.out]; simp), if_neg (by omega), if_neg (by omega), if_neg (by omega), if_pos hk]
      rw [h3, hk] at h2; exact h2)
     have rr9 := HRR9.out
     rw [hk] at rr9
     have d0 := rr9.cell (i := 0) rfl; have d1 := rr9.cell (i := 1) rfl; have d2 := rr9.cell (i := 2) rfl; have d3 := rr9.cell (i := 3) rfl; have d4 := rr9.cell (i := 4) rfl; have d5 := rr9.cell (i := 5) rfl; have d6 := rr9.cell (i := 6) rfl; have d7 := rr9.cell (i := 7) rfl; have d8 := rr9.cell (i := 8) rfl
     clear rr9
     cases r with
     | error c =>
       go_wp2_with (go_at_call 37; (refine (HC.out _ (Later.refl _)).mono ?_); rintro e w6 h6; obtain ⟨lw6, rfl⟩ := h6)
       exact ⟨rfl, B0.out.trans lw6, by rw [HR.out]⟩
     | ok D' =>
       go_upto_region 4 with (go_at_call 37; (refine (HC.out _ (Later.refl _)).mono ?_); rintro e w6 h6; obtain ⟨lw6, rfl, hm6, E1, E2, E3, E4, m1, m2, m3, m4, y1, y2, y3, y4, hk6⟩ := h6)
       have rk6 := hk6.row
       have r06 := R0.out.later lw6
       have HRX := hide r06; have HK6 := hide hk6; have HM6 := hide hm6; have LW6 := hide lw6
       clear hk6 hm6 lw6 d0 d1 d2 d3 d4 d5 d6 d7 d8 q5
       have p0 := rk6.cell (i := 0) rfl; have p1 := rk6.cell (i := 1) rfl; have p2 := rk6.cell (i := 2) rfl; have p3 := rk6.cell (i := 3) rfl; have p4 := rk6.cell (i := 4) rfl; have p5 := rk6.cell (i := 5) rfl
       have z0 := r06.cell (i := 0) rfl; have zz0 := r06.frozen 0; have z1 := r06.cell (i := 1) rfl; have zz1 := r06.frozen 1; have z2 := r06.cell (i := 2) rfl; have zz2 := r06.frozen 2; have z3 := r06.cell (i := 3) rfl; have zz3 := r06.frozen 3; have z4 := r06.cell (i := 4) rfl; have zz4 := r06.frozen 4; have z5 := r06.cell (i := 5) rfl; have zz5 := r06.frozen 5
       clear rk6 r06
       go_wp2_with fail
       refine bodyPost_ret (results_bk rfl rfl (HRX.out.put6 _ _ _ _ _ _)) rfl ?_
       exact apply1_end HRX.out HK6.out HM6.out LW6.out B0.out HR.out
 ·have hm' : mayB D = false := by simpa using hm
  have HM := hide hm'
  have HV : Hid (applyV D o = .error 1) := hide (by unfold applyV; rw [if_pos (.inl hm')])
  clear hm hm'
  go_wp2_with (first | (go_at_call 30; (with_reducible refine (plmay_calls _ A1 A2 A3 A4 n1 n2 n3 n4 c1 c2 c3 c4 D (HB.out.later lt_) false HM.out).mono ?_); rintro e w1 ⟨rfl, b1⟩; have ro := HRO.out.later (B0.out.trans b1); have x0 := ro.cell (i := 0) rfl; have x1 := ro.cell (i := 1) rfl; have x2 := ro.cell (i := 2) rfl; have x3 := ro.cell (i := 3) rfl; have x4 := ro.cell (i := 4) rfl; have x5 := ro.cell (i := 5) rfl; have x6 := ro.cell (i := 6) rfl; have x7 := ro.cell (i := 7) rfl; have x8 := ro.cell (i := 8) rfl; clear ro) | (go_at_call 29; refine (must_no _ _).mono ?_; rintro e w' ⟨rfl, rfl⟩))
  exact ⟨rfl, lw.trans b1, by rw [HV.out]⟩
end Go.Proofs.YtncbebfhakcgdaaGreat
namespace Go.Proofs.YtncbebfhakcgdaaGreat
open Go.RowKit Go.Shelf
attribute [local go_sem ↓] Go.wp_at_zero Go.wp_at_succ
def CauP (w : World) (r : Except Int PBook) (e : Ending) (w' : World) : Prop := Later w w' /\ match r with
 | .ok D' => MayP D' /\ ∃ A1 A2 A3 A4 n1 n2 n3 n4 c1 c2 c3 c4, e = .returned (.tuple #[.agg #[.slice A1 n1 c1, .int .i64 D'.hor, .int .i64 D'.now, .slice A2 n2 c2, .slice A3 n3 c3, .slice A4 n4 c4], .int .i64 0]) /\ BkN w.heap.size w' (.slice A1 n1 c1) (.slice A2 n2 c2) (.slice A3 n3 c3) (.slice A4 n4 c4) D'
 | .error c => e = .returned (.tuple #[.agg #[.slice none 0 0, .int .i64 0, .int .i64 0, .slice none 0 0, .slice none 0 0, .slice none 0 0], .int .i64 c])
theorem results_bkt {fn : Func} {t s : Tmp} {tmps : Array Value} {W : World} {b : Nat} {v0 v1 v2 v3 v4 v5 x : Value} (h : fn.results = #[.cell t 27, .tmp s]) (hp : tmps[t]?.getD undef = .pointer (some ⟨b, 0, none⟩)) (hq : tmps[s]?.getD undef = x) (hr : Row W b 27 [v0, v1, v2, v3, v4, v5]) :
 (results fn tmps).run Tryz.prog W = .ok (.tuple #[.agg #[v0, v1, v2, v3, v4, v5], x]) W := by
 have c0 := hr.cell (i := 0) rfl; have c1 := hr.cell (i := 1) rfl; have c2 := hr.cell (i := 2) rfl; have c3 := hr.cell (i := 3) rfl; have c4 := hr.cell (i := 4) rfl; have c5 := hr.cell (i := 5) rfl
 simp [results, h, hp, hq, go_sem, c0, c1, c2, c3, c4, c5]
set_option maxHeartbeats 4000000 in
theorem caughtB_calls (w : World) (gb go : Nat) (A1 A2 A3 A4 Aq : Option Addr) (n1 n2 n3 n4 nq c1 c2 c3 c4 cq : Nat) (D : PBook) (o : POp) (hb : Row w gb 27 [.slice A1 n1 c1, .int .i64 D.hor, .int .i64 D.now, .slice A2 n2 c2, .slice A3 n3 c3, .slice A4 n4 c4]) (ho : Row w go 31 [.int .i64 o.kind, .int .i64 o.ord.id, .int .i64 o.ord.item, .int .i64 o.ord.due, .int .i64 o.ord.qty, .int .i64 o.id, .int .i64 o.period, .int .i64 o.qty, .slice Aq nq cq]) (h : BookIn w (.slice A1 n1 c1) (.slice A2 n2 c2) (.slice A3 n3 c3) (.slice A4 n4 c4) D) (hfit : o.ord.fit) (hQ : Sq 1 iCells w (.slice Aq nq cq) o.qtys) (hnq : nq = o.qtys.length) (hql : o.qtys.length <= 1000) :
 Calls Tryz.prog 27 #[.func (.func 28) #[] #[.pointer (some ⟨gb, 0, none⟩), .pointer (some ⟨go, 0, none⟩)]] w (CauP w (applyV D o)) := by
 obtain ⟨r, hr⟩ : ∃ r, applyV D o = r := ⟨_, rfl⟩
 have HC : Hid (∀ W, Later w W -> Calls Tryz.prog 28 #[.pointer (some ⟨gb, 0, none⟩), .pointer (some ⟨go, 0, none⟩)] W (ApP W r)) := hide (fun W hW => by
  have h2 := apply1_calls W gb go A1 A2 A3 A4 Aq n1 n2 n3 n4 nq c1 c2 c3 c4 cq D o (hb.later hW) (ho.later hW) (h.later hW) hfit (hQ.later hW) hnq hql
  rw [hr] at h2; exact h2)
 rw [hr]
 clear hr hb ho h hfit hQ hnq hql
 obtain ⟨W0, hW0⟩ : ∃ W0, W0 = ((w.alloc (Obj.cells #[Value.slice none 0 0, Value.int .i64 0, Value.int .i64 0, Value.slice none 0 0, Value.slice none 0 0, Value.slice none 0 0] 27)).alloc (Obj.cells #[Value.int .i64 0] 35)) := ⟨_, rfl⟩
 obtain ⟨hb0, r0, r1, hsz0⟩ := boxes2 w [.slice none 0 0, .int .i64 0, .int .i64 0, .slice none 0 0, .slice none 0 0, .slice none 0 0] [.int .i64 0] 27 35 hW0
 have B0 := hide hb0; have HW0 := hide hW0; have HSZ0 := hide hsz0
 have R0 := hide r0; have R1 := hide r1
 clear hb0 hW0 hsz0 r0 r1
 have hmf := mkF
 have HC := hide (HC.out W0 B0.out)
 go_enter_defers Tryz.func27, Tryz.ntmps27
 go_upto_region 2 with fail
 rw [<- HW0.out]
 cases r with
 | error c =>
   go_wp2_with (go_at_call 28; (refine HC.out.mono ?_); rintro e w1 ⟨b1, rfl⟩)
   have r0 := R0.out.later b1; have r1 := R1.out.later b1
   refine leaves_cons (f := 56) (args := #[.pointer (some ⟨w.heap.size, 0, none⟩), .pointer (some ⟨w.heap.size + 1, 0, none⟩)]) (by simp) (by simp [go_sem]) ?_
   refine (catchB_pan w1 w.heap.size (w.heap.size + 1) _ _ _ _ _ _ _ c r0 r1 (by omega)).mono ?_
   rintro e u' w2 ⟨rfl, rfl, p0, p1, w3, l3, on⟩
   refine ⟨_, results_bkc rfl rfl rfl p0 p1, ?_, rfl⟩
   exact (B0.out.trans (b1.trans l3)).onlys on (by intro g hg; simp at hg; rcases hg with rfl | rfl <;> omega)
 | ok D' =>
   go_wp2_with (go_at_call 28; (refine HC.out.mono ?_); rintro e w1 h1; obtain ⟨b1, hm1, E1, E2, E3, E4, m1, m2, m3, m4, y1, y2, y3, y4, rfl, hk1⟩ := h1; have rk := R0.out.later b1; have rc := R1.out.later b1; have k0 := rk.cell (i := 0) rfl; have kz0 := rk.frozen 0; have k1 := rk.cell (i := 1) rfl; have kz1 := rk.frozen 1; have k2 := rk.cell (i := 2) rfl; have kz2 := rk.frozen 2; have k3 := rk.cell (i := 3) rfl; have kz3 := rk.frozen 3; have k4 := rk.cell (i := 4) rfl; have kz4 := rk.frozen 4; have k5 := rk.cell (i := 5) rfl; have kz5 := rk.frozen 5; have j0 := rc.cell (i := 0) rfl; have jz0 := rc.frozen 0; have RK := hide rk; have RC := hide rc; have HM1 := hide hm1; have HK1 := hide hk1; clear rk rc hm1 hk1)
   have r1 := (RK.out.put6 (.slice E1 m1 y1) (.int .i64 D'.hor) (.int .i64 D'.now) (.slice E2 m2 y2) (.slice E3 m3 y3) (.slice E4 m4 y4)).far (p := ⟨w.heap.size + 1, 0, none⟩) (by show w.heap.size ≠ w.heap.size + 1; omega) (.int .i64 0)
   have r2 := (RC.out.off6 (by omega : w.heap.size + 1 ≠ w.heap.size) (.slice E1 m1 y1) (.int .i64 D'.hor) (.int .i64 D'.now) (.slice E2 m2 y2) (.slice E3 m3 y3) (.slice E4 m4 y4)).set_ 0 (.int .i64 0)
   refine leaves_cons (f := 56) (args := #[.pointer (some ⟨w.heap.size, 0, none⟩), .pointer (some ⟨w.heap.size + 1, 0, none⟩)]) (by simp) (by simp [go_sem]) ?_
   refine (catchB_idle _ w.heap.size (w.heap.size + 1)).mono ?_
   rintro e u' w2 ⟨rfl, rfl, rfl⟩
   refine ⟨_, results_bkc rfl rfl rfl r1 r2, ?_⟩
   have oa := only6 (W := w1) w.heap.size (.slice E1 m1 y1) (.int .i64 D'.hor) (.int .i64 D'.now) (.slice E2 m2 y2) (.slice E3 m3 y3) (.slice E4 m4 y4)
   have rc2 := RC.out.off6 (by omega : w.heap.size + 1 ≠ w.heap.size) (.slice E1 m1 y1) (.int .i64 D'.hor) (.int .i64 D'.now) (.slice E2 m2 y2) (.slice E3 m3 y3) (.slice E4 m4 y4)
   refine ⟨((B0.out.trans b1).only oa (Nat.le_refl _)).only (Only.one (w.heap.size + 1) _ 0 _) (by omega), HM1.out, _, _, _, _, _, _, _, _, _, _, _, _, rfl, ?_⟩
   exact (((HK1.out.box (IsBox.book RK.out) oa).box (IsBox.code rc2) (Only.one _ _ _ _)).weaken B0.out.size)
set_option maxHeartbeats 4000000 in
theorem apply_calls (w : World) (A1 A2 A3 A4 Aq : Option Addr) (n1 n2 n3 n4 nq c1 c2 c3 c4 cq : Nat) (D : PBook) (o : POp) (h : BookIn w (.slice A1 n1 c1) (.slice A2 n2 c2) (.slice A3 n3 c3) (.slice A4 n4 c4) D) (hfit : o.ord.fit) (hQ : Sq 1 iCells w (.slice Aq nq cq) o.qtys) (hql : o.qtys.length <= 1000) :
 Calls Tryz.prog 12 #[.agg #[.slice A1 n1 c1, .int .i64 D.hor, .int .i64 D.now, .slice A2 n2 c2, .slice A3 n3 c3, .slice A4 n4 c4], .agg #[.int .i64 o.kind, .int .i64 o.ord.id, .int .i64 o.ord.item, .int .i64 o.ord.due, .int .i64 o.ord.qty, .int .i64 o.id, .int .i64 o.period, .int .i64 o.qty, .slice Aq nq cq]] w (CauP w (applyV D o)) := by
 have hnq : nq = o.qtys.length := by
  obtain ⟨_, _, _, e, e2, -⟩ := hQ.form
  injection e with _ e3 _; omega
 obtain ⟨r, hr⟩ : ∃ r, applyV D o = r := ⟨_, rfl⟩
 have HC : Hid (∀ W gb go, Later w W -> Row W gb 27 [.slice A1 n1 c1, .int .i64 D.hor, .int .i64 D.now, .slice A2 n2 c2, .slice A3 n3 c3, .slice A4 n4 c4] -> Row W go 31 [.int .i64 o.kind, .int .i64 o.ord.id, .int .i64 o.ord.item, .int .i64 o.ord.due, .int .i64 o.ord.qty, .int .i64 o.id, .int .i64 o.period, .int .i64 o.qty, .slice Aq nq cq] -> Calls Tryz.prog 27 #[.func (.func 28) #[] #[.pointer (some ⟨gb, 0, none⟩), .pointer (some ⟨go, 0, none⟩)]] W (CauP W r)) := hide (fun W gb go hW hb ho => by
  have h2 := caughtB_calls W gb go A1 A2 A3 A4 Aq n1 n2 n3 n4 nq c1 c2 c3 c4 cq D o hb ho (h.later hW) hfit (hQ.later hW) hnq hql
  rw [hr] at h2; exact h2)
 rw [hr]
 clear hr h hfit hQ hql hnq
 obtain ⟨W0, hW0⟩ : ∃ W0, W0 = (((w.alloc (Obj.cells #[Value.slice A1 n1 c1, Value.int .i64 D.hor, Value.int .i64 D.now, Value.slice A2 n2 c2, Value.slice A3 n3 c3, Value.slice A4 n4 c4] 27)).alloc (Obj.cells #[Value.int .i64 o.kind, Value.int .i64 o.ord.id, Value.int .i64 o.ord.item, Value.int .i64 o.ord.due, Value.int .i64 o.ord.qty, Value.int .i64 o.id, Value.int .i64 o.period, Value.int .i64 o.qty, Value.slice Aq nq cq] 31)).alloc (Obj.cells #[Value.slice none 0 0, Value.int .i64 0, Value.int .i64 0, Value.slice none 0 0, Value.slice none 0 0, Value.slice none 0 0] 27)) := ⟨_, rfl⟩
 obtain ⟨hb0, r0, r1, r2, hsz0⟩ := boxes3 w [.slice A1 n1 c1, .int .i64 D.hor, .int .i64 D.now, .slice A2 n2 c2, .slice A3 n3 c3, .slice A4 n4 c4] [.int .i64 o.kind, .int .i64 o.ord.id, .int .i64 o.ord.item, .int .i64 o.ord.due, .int .i64 o.ord.qty, .int .i64 o.id, .int .i64 o.period, .int .i64 o.qty, .slice Aq nq cq] [.slice none 0 0, .int .i64 0, .int .i64 0, .slice none 0 0, .slice none 0 0, .slice none 0 0] 27 31 27 hW0
 have B0 := hide hb0; have HW0 := hide hW0; have HSZ0 := hide hsz0
 have R0 := hide r0; have R1 := hide r1; have R2 := hide r2
 clear hb0 hW0 hsz0 r0 r1 r2
 have hmf := mkF
 go_enter Tryz.func12, Tryz.ntmps12
 go_upto_region 1 with fail
 rw [<- HW0.out]
 cases r with
 | error c =>
   go_wp2_with (go_at_call 27; (refine (HC.out W0 _ _ B0.out R0.out R1.out).mono ?_); rintro e w1 ⟨b1, rfl⟩; have rk := R2.out.later b1; have k0 := rk.cell (i := 0) rfl; have kz0 := rk.frozen 0; have k1 := rk.cell (i := 1) rfl; have kz1 := rk.frozen 1; have k2 := rk.cell (i := 2) rfl; have kz2 := rk.frozen 2; have k3 := rk.cell (i := 3) rfl; have kz3 := rk.frozen 3; have k4 := rk.cell (i := 4) rfl; have kz4 := rk.frozen 4; have k5 := rk.cell (i := 5) rfl; have kz5 := rk.frozen 5; have RK := hide rk; clear rk)
   refine bodyPost_ret (results_bkt rfl rfl rfl (RK.out.put6 _ _ _ _ _ _)) rfl ?_
   exact ⟨(B0.out.trans b1).only (only6 _ _ _ _ _ _ _) (by omega), rfl⟩
 | ok D' =>
   go_wp2_with (go_at_call 27; (refine (HC.out W0 _ _ B0.out R0.out R1.out).mono ?_); rintro e w1 h1; obtain ⟨b1, hm1, E1, E2, E3, E4, m1, m2, m3, m4, y1, y2, y3, y4, rfl, hk1⟩ := h1; have rk := R2.out.later b1; have k0 := rk.cell (i := 0) rfl; have kz0 := rk.frozen 0; have k1 := rk.cell (i := 1) rfl; have kz1 := rk.frozen 1; have k2 := rk.cell (i := 2) rfl; have kz2 := rk.frozen 2; have k3 := rk.cell (i := 3) rfl; have kz3 := rk.frozen 3; have k4 := rk.cell (i := 4) rfl; have kz4 := rk.frozen 4; have k5 := rk.cell (i := 5) rfl; have kz5 := rk.frozen 5; have RK := hide rk; have HM1 := hide hm1; have HK1 := hide hk1; clear rk hm1 hk1)
   refine bodyPost_ret (results_bkt rfl rfl rfl (RK.out.put6 _ _ _ _ _ _)) rfl ?_
   have oo := only6 (W := w1) (w.heap.size + 2) (.slice E1 m1 y1) (.int .i64 D'.hor) (.int .i64 D'.now) (.slice E2 m2 y2) (.slice E3 m3 y3) (.slice E4 m4 y4)
   exact ⟨(B0.out.trans b1).only oo (by omega), HM1.out, _, _, _, _, _, _, _, _, _, _, _, _, rfl, (HK1.out.box (IsBox.book RK.out) oo).weaken B0.out.size⟩
noncomputable def newV (items : List PItem) (hor : Int) : Except Int PBook := if mayB (newD items hor) = true then .ok (newD items hor) else .error 1
set_option maxHeartbeats 4000000 in
theorem new_calls (w : World) (A : Option Addr) (n c : Nat) (items : List PItem) (hor : Int) (hI : Its 12 w (.slice A n c) items) (hl : items.length <= 1000) (hf : IFit hor) :
 Calls Tryz.prog 14 #[.slice A n c, .int .i64 hor] w (CauP w (newV items hor)) := by
 have HI := hide hI; have HIL := hide hl; have HFH := hide hf
 clear hI hl hf
 obtain ⟨W0, hW0⟩ : ∃ W0, W0 = (w.alloc (Obj.cells #[Value.slice none 0 0, Value.int .i64 0, Value.int .i64 0, Value.slice none 0 0, Value.slice none 0 0, Value.slice none 0 0] 27)) := ⟨_, rfl⟩
 obtain ⟨hb0, r0, hsz0⟩ := boxes1 w [.slice none 0 0, .int .i64 0, .int .i64 0, .slice none 0 0, .slice none 0 0, .slice none 0 0] 27 hW0
 have B0 := hide hb0; have HW0 := hide hW0; have HSZ0 := hide hsz0
 have R0 := hide r0
 clear hb0 hW0 hsz0 r0
 go_enter Tryz.func14, Tryz.ntmps14
 go_upto_region 1 with fail
 rw [<- HW0.out]
 have b0 := B0.out
 go_upto_region 2 with (go_at_call 43; (with_reducible refine (cloneT_calls _ w B0.out 12 _ items (HI.out) HIL.out).mono ?_); rintro e w1 ⟨v5, rfl, ⟨es, hes, o5⟩, b1⟩; obtain ⟨A5, c5, rfl⟩ := own_form o5)
 obtain ⟨W2, hW2⟩ : ∃ W2, W2 = w1.alloc (Obj.cells #[Value.slice A5 items.length c5, Value.int .i64 hor, Value.int .i64 0, Value.slice none 0 0, Value.slice none 0 0, Value.slice none 0 0] 27) := ⟨_, rfl⟩
 obtain ⟨g, hg⟩ : ∃ g, g = w1.heap.size := ⟨_, rfl⟩
 rw [<- hW2, <- hg]
 have l2 : Later w1 W2 := by rw [hW2]; exact (Later.refl _).alloc _
 have RX : Hid (Row W2 g 27 [.slice A5 items.length c5, .int .i64 hor, .int .i64 0, .slice none 0 0, .slice none 0 0, .slice none 0 0]) := hide (by rw [hW2, hg]; exact Row.new _ _ _)
 have RZ := hide (R0.out.later (b1.trans l2))
 have L2 := hide ((b0.trans b1).trans l2)
 have HBN : Hid (BkN W0.heap.size W2 (.slice A5 items.length c5) (.slice none 0 0) (.slice none 0 0) (.slice none 0 0) (newD items hor)) := hide ⟨⟨es, hes.later L2.out, own_later o5 l2⟩, World.ownsRow_nil _ _ _ _, World.ownsRow_nil _ _ _ _, World.ownsRow_nil _ _ _ _⟩
 have HBI : Hid (BookIn W2 (.slice A5 items.length c5) (.slice none 0 0) (.slice none 0 0) (.slice none 0 0) (newD items hor)) := hide (HBN.out.book ⟨HIL.out, by simp [newD], by simp [newD], by simp [newD], HFH.out, by show IFit 0; unfold IFit; omega, fun z hz => by simp [newD] at hz, fun z hz => by simp [newD] at hz, fun z hz => by simp [newD] at hz⟩)
 clear hW2 hg l2 b1 o5 hes
 have rx := RX.out
 have x0 := rx.cell (i := 0) rfl; have x1 := rx.cell (i := 1) rfl; have x2 := rx.cell (i := 2) rfl; have x3 := rx.cell (i := 3) rfl; have x4 := rx.cell (i := 4) rfl; have x5 := rx.cell (i := 5) rfl
 clear rx
 obtain ⟨u, hu⟩ : ∃ u, mayB (newD items hor) = u := ⟨_, rfl⟩
 have HM := hide hu
 clear hu
 cases u with
 | false =>
   have HV : Hid (newV items hor = .error 1) := hide (by unfold newV; rw [if_neg (by rw [HM.out]; simp)])
   go_wp2_with (go_at_call 30; (refine (plmay_calls _ A5 none none none items.length 0 0 0 c5 0 0 0 (newD items hor) HBI.out false HM.out).mono ?_); rintro e w3 ⟨rfl, b3⟩; have rx := RX.out.later b3; have rz := RZ.out.later b3; have k0 := rx.cell (i := 0) rfl; have k1 := rx.cell (i := 1) rfl; have k2 := rx.cell (i := 2) rfl; have k3 := rx.cell (i := 3) rfl; have k4 := rx.cell (i := 4) rfl; have k5 := rx.cell (i := 5) rfl; have j0 := rz.cell (i := 0) rfl; have jz0 := rz.frozen 0; have j1 := rz.cell (i := 1) rfl; have jz1 := rz.frozen 1; have j2 := rz.cell (i := 2) rfl; have jz2 := rz.frozen 2; have j3 := rz.cell (i := 3) rfl; have jz3 := rz.frozen 3; have j4 := rz.cell (i := 4) rfl; have jz4 := rz.frozen 4; have j5 := rz.cell (i := 5) rfl; have jz5 := rz.frozen 5; have RZ3 := hide rz; clear rx rz)
   refine bodyPost_ret (results_bkt rfl rfl rfl (RZ3.out.put6 _ _ _ _ _ _)) rfl ?_
   exact ⟨(L2.out.trans b3).only (only6 _ _ _ _ _ _ _) (Nat.le_refl _), by rw [HV.out]; rfl⟩
 | true =>
   have HV : Hid (newV items hor = .ok (newD items hor)) := hide (by unfold newV; rw [if_pos HM.out])
   go_wp2_with (go_at_call 30; (refine (plmay_calls _ A5 none none none items.length 0 0 0 c5 0 0 0 (newD items hor) HBI.out true HM.out).mono ?_); rintro e w3 ⟨rfl, b3⟩; have rx := RX.out.later b3; have rz := RZ.out.later b3; have k0 := rx.cell (i := 0) rfl; have k1 := rx.cell (i := 1) rfl; have k2 := rx.cell (i := 2) rfl; have k3 := rx.cell (i := 3) rfl; have k4 := rx.cell (i := 4) rfl; have k5 := rx.cell (i := 5) rfl; have j0 := rz.cell (i := 0) rfl; have jz0 := rz.frozen 0; have j1 := rz.cell (i := 1) rfl; have jz1 := rz.frozen 1; have j2 := rz.cell (i := 2) rfl; have jz2 := rz.frozen 2; have j3 := rz.cell (i := 3) rfl; have jz3 := rz.frozen 3; have j4 := rz.cell (i := 4) rfl; have jz4 := rz.frozen 4; have j5 := rz.cell (i := 5) rfl; have jz5 := rz.frozen 5; have RZ3 := hide rz; clear rx rz)
   refine bodyPost_ret (results_bkt rfl rfl rfl (RZ3.out.put6 _ _ _ _ _ _)) rfl ?_
   have oo := only6 (W := w3) w.heap.size (.slice A5 items.length c5) (.int .i64 hor) (.int .i64 0) (.slice none 0 0) (.slice none 0 0) (.slice none 0 0)
   refine ⟨(L2.out.trans b3).only oo (Nat.le_refl _), ?_⟩
   rw [HV.out]
   exact ⟨mayB_iff.1 HM.out, _, _, _, _, _, _, _, _, _, _, _, _, rfl, ((HBN.out.later b3).box (IsBox.book RZ3.out) oo).weaken B0.out.size⟩
end Go.Proofs.YtncbebfhakcgdaaGreat
namespace Go.Proofs.YtncbebfhakcgdaaGreat
open Go.RowKit Go.Shelf
attribute [local go_sem ↓] Go.wp_at_zero Go.wp_at_succ
set_option maxHeartbeats 1000000 in
theorem eqI_calls (w : World) (v v2 : Value) (l : List Int) (h : Sq 1 iCells w v l) (h2 : Sq 1 iCells w v2 l) (hl : l.length <= 1000000) :
 Calls Tryz.prog 94 #[v, v2] w (RetV w (.bool true)) := by
 obtain ⟨A0, nt, ct, rfl, hnt, -, -, hA⟩ := h.form
 obtain ⟨B0, nt2, ct2, rfl, hnt2, -, -, hB⟩ := h2.form
 obtain rfl : nt2 = nt := by omega
 have HNT := hide hnt; have H := hide hA; have H2 := hide hB
 have hn9 : nt2 <= 1000000 := by omega
 clear h h2 hA hB hnt hnt2 hl
 go_enter Tryz.func94, Tryz.ntmps94
 go_wp2_with fail
 go_loopw [13] (fun i wr => ∃ j : Nat, j <= nt2 /\ i = .int .i64 (j : Int) /\ Later w wr) (fun i _ => (nt2 - intOf i).toNat)
 case atStart => exact ⟨0, by omega, rfl, Later.refl w⟩
 case round =>
  obtain ⟨j, hj, rfl, hL⟩ := hrel
  by_cases hjn : j < nt2
  ·obtain ⟨x, hx⟩ : ∃ x, l[j]? = some x := ⟨l[j]'(by have := HNT.out; omega), List.getElem?_eq_getElem _⟩
   obtain ⟨b1, off1, rfl, x0⟩ := (H.out.later hL).at1 hx
   obtain ⟨b2, off2, rfl, y0⟩ := (H2.out.later hL).at1 hx
   have hj0 : (0 : Int) <= (j : Int) := by omega
   have hj1 : (j : Int) < nt2 := by omega
   clear hx
   go_upto_region 6 with fail
   go_quiet (fail)
   all_goals
    go_wp2_with fail
    exact ⟨⟨j+1, by omega, by go_num, hL.drewN _⟩, by simp [intOf]; omega⟩
  ·obtain rfl : j = nt2 := by omega
   go_wp2_with fail
   go_ret
   exact ⟨rfl, hL⟩
set_option maxHeartbeats 1000000 in
theorem eqO_calls (w : World) (v v2 : Value) (l : List POrd) (h : Sq 4 oCells w v l) (h2 : Sq 4 oCells w v2 l) (hl : l.length <= 1000000) :
 Calls Tryz.prog 95 #[v, v2] w (RetV w (.bool true)) := by
 obtain ⟨A0, nt, ct, rfl, hnt, -, -, hA⟩ := h.form
 obtain ⟨B0, nt2, ct2, rfl, hnt2, -, -, hB⟩ := h2.form
 obtain rfl : nt2 = nt := by omega
 have HNT := hide hnt; have H := hide hA; have H2 := hide hB
 have hn9 : nt2 <= 1000000 := by omega
 clear h h2 hA hB hnt hnt2 hl
 go_enter Tryz.func95, Tryz.ntmps95
 go_wp2_with fail
 go_loopw [13] (fun i wr => ∃ j : Nat, j <= nt2 /\ i = .int .i64 (j : Int) /\ Later w wr) (fun i _ => (nt2 - intOf i).toNat)
 case atStart => exact ⟨0, by omega, rfl, Later.refl w⟩
 case round =>
  obtain ⟨j, hj, rfl, hL⟩ := hrel
  by_cases hjn : j < nt2
  ·obtain ⟨x, hx⟩ : ∃ x, l[j]? = some x := ⟨l[j]'(by have := HNT.out; omega), List.getElem?_eq_getElem _⟩
   obtain ⟨b1, off1, rfl, x0, x1, x2, x3⟩ := (H.out.later hL).at4 hx
   obtain ⟨b2, off2, rfl, y0, y1, y2, y3⟩ := (H2.out.later hL).at4 hx
   have hj0 : (0 : Int) <= (j : Int) := by omega
   have hj1 : (j : Int) < nt2 := by omega
   clear hx
   go_upto_region 6 with fail
   go_quiet (fail)
   all_goals
    go_wp2_with fail
    exact ⟨⟨j+1, by omega, by go_num, hL.drewN _⟩, by simp [intOf]; omega⟩
  ·obtain rfl : j = nt2 := by omega
   go_wp2_with fail
   go_ret
   exact ⟨rfl, hL⟩
set_option maxHeartbeats 1000000 in
theorem eqM_calls (w : World) (v v2 : Value) (l : List PMk) (h : Sq 3 mCells w v l) (h2 : Sq 3 mCells w v2 l) (hl : l.length <= 1000000) :
 Calls Tryz.prog 96 #[v, v2] w (RetV w (.bool true)) := by
 obtain ⟨A0, nt, ct, rfl, hnt, -, -, hA⟩ := h.form
 obtain ⟨B0, nt2, ct2, rfl, hnt2, -, -, hB⟩ := h2.form
 obtain rfl : nt2 = nt := by omega
 have HNT := hide hnt; have H := hide hA; have H2 := hide hB
 have hn9 : nt2 <= 1000000 := by omega
 clear h h2 hA hB hnt hnt2 hl
 go_enter Tryz.func96, Tryz.ntmps96
 go_wp2_with fail
 go_loopw [13] (fun i wr => ∃ j : Nat, j <= nt2 /\ i = .int .i64 (j : Int) /\ Later w wr) (fun i _ => (nt2 - intOf i).toNat)
 case atStart => exact ⟨0, by omega, rfl, Later.refl w⟩
 case round =>
  obtain ⟨j, hj, rfl, hL⟩ := hrel
  by_cases hjn : j < nt2
  ·obtain ⟨x, hx⟩ : ∃ x, l[j]? = some x := ⟨l[j]'(by have := HNT.out; omega), List.getElem?_eq_getElem _⟩
   obtain ⟨b1, off1, rfl, x0, x1, x2⟩ := (H.out.later hL).at3 hx
   obtain ⟨b2, off2, rfl, y0, y1, y2⟩ := (H2.out.later hL).at3 hx
   have hj0 : (0 : Int) <= (j : Int) := by omega
   have hj1 : (j : Int) < nt2 := by omega
   clear hx
   go_upto_region 6 with fail
   go_quiet (fail)
   all_goals
    go_wp2_with fail
    exact ⟨⟨j+1, by omega, by go_num, hL.drewN _⟩, by simp [intOf]; omega⟩
  ·obtain rfl : j = nt2 := by omega
   go_wp2_with fail
   go_ret
   exact ⟨rfl, hL⟩
set_option maxHeartbeats 4000000 in
theorem bksame_calls (w : World) (A1 A2 A3 A4 B1 B2 B3 B4 : Option Addr) (n1 n2 n3 n4 c1 c2 c3 c4 m1 m2 m3 m4 d1 d2 d3 d4 : Nat) (D : PBook) (h : BookIn w (.slice A1 n1 c1) (.slice A2 n2 c2) (.slice A3 n3 c3) (.slice A4 n4 c4) D) (h2 : BookIn w (.slice B1 m1 d1) (.slice B2 m2 d2) (.slice B3 m3 d3) (.slice B4 m4 d4) D) :
 Calls Tryz.prog 55 #[.agg #[.slice A1 n1 c1, .int .i64 D.hor, .int .i64 D.now, .slice A2 n2 c2, .slice A3 n3 c3, .slice A4 n4 c4], .agg #[.slice B1 m1 d1, .int .i64 D.hor, .int .i64 D.now, .slice B2 m2 d2, .slice B3 m3 d3, .slice B4 m4 d4]] w (RetV w (.bool true)) := by
 have H := hide h; have H2 := hide h2
 clear h h2
 obtain ⟨W0, hW0⟩ : ∃ W0, W0 = ((w.alloc (Obj.cells #[Value.slice A1 n1 c1, Value.int .i64 D.hor, Value.int .i64 D.now, Value.slice A2 n2 c2, Value.slice A3 n3 c3, Value.slice A4 n4 c4] 27)).alloc (Obj.cells #[Value.slice B1 m1 d1, Value.int .i64 D.hor, Value.int .i64 D.now, Value.slice B2 m2 d2, Value.slice B3 m3 d3, Value.slice B4 m4 d4] 27)) := ⟨_, rfl⟩
 obtain ⟨hb0, r0, r1, hsz0⟩ := boxes2 w [.slice A1 n1 c1, .int .i64 D.hor, .int .i64 D.now, .slice A2 n2 c2, .slice A3 n3 c3, .slice A4 n4 c4] [.slice B1 m1 d1, .int .i64 D.hor, .int .i64 D.now, .slice B2 m2 d2, .slice B3 m3 d3, .slice B4 m4 d4] 27 27 hW0
 have B0 := hide hb0; have HW0 := hide hW0; have HSZ0 := hide hsz0
 have R0 := hide r0; have R1 := hide r1
 clear hb0 hW0 hsz0 r0 r1
 go_enter Tryz.func55, Tryz.ntmps55
 go_upto_region 1 with fail
 rw [<- HW0.out]
 have r_x := R0.out.later (Later.refl W0)
 have x0 := r_x.cell (i := 0) rfl; have x1 := r_x.cell (i := 1) rfl; have x2 := r_x.cell (i := 2) rfl; have x3 := r_x.cell (i := 3) rfl; have x4 := r_x.cell (i := 4) rfl; have x5 := r_x.cell (i := 5) rfl
 clear r_x
 have r_y := R1.out.later (Later.refl W0)
 have y0 := r_y.cell (i := 0) rfl; have y1 := r_y.cell (i := 1) rfl; have y2 := r_y.cell (i := 2) rfl; have y3 := r_y.cell (i := 3) rfl; have y4 := r_y.cell (i := 4) rfl; have y5 := r_y.cell (i := 5) rfl
 clear r_y
 have lw := B0.out
 go_wp2_with (first | (go_at_call 94; (with_reducible refine (eqI_calls _ _ _ D.caps (H.out.later lw).caps (H2.out.later lw).caps (by have := H.out.cl; omega)).mono ?_); rintro e w1 ⟨rfl, b1⟩; have l1 := lw.trans b1; have x4' := Later.cell b1 x4; have y4' := Later.cell b1 y4; have x5' := Later.cell b1 x5; have y5' := Later.cell b1 y5) | (go_at_call 95; (with_reducible refine (eqO_calls _ _ _ D.ords (H.out.later l1).ords (H2.out.later l1).ords (by have := H.out.ol; omega)).mono ?_); rintro e w2 ⟨rfl, b2⟩; have l2 := l1.trans b2; have x5'' := Later.cell b2 x5'; have y5'' := Later.cell b2 y5') | (go_at_call 96; (with_reducible refine (eqM_calls _ _ _ D.mks (H.out.later l2).mks (H2.out.later l2).mks (by have := H.out.ml; omega)).mono ?_); rintro e w3 ⟨rfl, b3⟩))
 go_ret
 exact ⟨rfl, l2.trans b3⟩
end Go.Proofs.YtncbebfhakcgdaaGreat
namespace Go.Proofs.YtncbebfhakcgdaaGreat
open Go.RowKit Go.Shelf
attribute [local go_sem ↓] Go.wp_at_zero Go.wp_at_succ
structure QS where
 A : Option Addr
 n : Nat
 c : Nat
def opCells (p : QS × POp) : List Value := [.int .i64 p.2.kind, .int .i64 p.2.ord.id, .int .i64 p.2.ord.item, .int .i64 p.2.ord.due, .int .i64 p.2.ord.qty, .int .i64 p.2.id, .int .i64 p.2.period, .int .i64 p.2.qty, .slice p.1.A p.1.n p.1.c]
theorem opCells_len (p : QS × POp) : (opCells p).length = 9 := rfl
theorem info_op : (Tryz.prog.info? 31).map (fun i => (i.zero, i.size, i.bytes)) = some (some (.agg #[.int .i64 0, .int .i64 0, .int .i64 0, .int .i64 0, .int .i64 0, .int .i64 0, .int .i64 0, .int .i64 0, .slice none 0 0]), 9, 88) := by kernel_rfl
def OpsIn (w : World) (v : Value) (l : List POp) : Prop := ∃ es : List QS, es.length = l.length /\ (∀ (i : Nat) e o, es[i]? = some e -> l[i]? = some o -> Sq 1 iCells w (.slice e.A e.n e.c) o.qtys) /\ Sq 9 opCells w v (es.zip l)
theorem OpsIn.later {w w' : World} {v : Value} {l : List POp} (h : OpsIn w v l) (hb : Later w w') : OpsIn w' v l := by
 obtain ⟨es, h1, h2, h3⟩ := h
 exact ⟨es, h1, fun i e o a b => (h2 i e o a b).later hb, h3.later hb⟩
theorem OpsIn.form {w : World} {v : Value} {l : List POp} (h : OpsIn w v l) : ∃ A n c, v = .slice A n c /\ n = l.length /\ n <= c /\ c <= maxLen /\ OpsIn w (.slice A n c) l := by
 obtain ⟨es, h1, h2, h3⟩ := id h
 obtain ⟨A, n, c, rfl, e1, e2, e3, -⟩ := h3.form
 exact ⟨A, n, c, rfl, by rw [e1, List.length_zip]; omega, e2, e3, h⟩
theorem OpsIn.at9 {w : World} {A : Option Addr} {n c : Nat} {l : List POp} (h : OpsIn w (.slice A n c) l) {i : Nat} {o : POp} (hi : l[i]? = some o) : ∃ b off, A = some ⟨b, off, none⟩ /\ ∃ Aq nq cq, Sq 1 iCells w (.slice Aq nq cq) o.qtys /\ w.cell? ⟨b, off + i * 9, none⟩ = some (.int .i64 o.kind) /\ w.cell? ⟨b, off + i * 9 + 1, none⟩ = some (.int .i64 o.ord.id) /\ w.cell? ⟨b, off + i * 9 + 2, none⟩ = some (.int .i64 o.ord.item) /\ w.cell? ⟨b, off + i * 9 + 3, none⟩ = some (.int .i64 o.ord.due) /\ w.cell? ⟨b, off + i * 9 + 4, none⟩ = some (.int .i64 o.ord.qty) /\ w.cell? ⟨b, off + i * 9 + 5, none⟩ = some (.int .i64 o.id) /\ w.cell? ⟨b, off + i * 9 + 6, none⟩ = some (.int .i64 o.period) /\ w.cell? ⟨b, off + i * 9 + 7, none⟩ = some (.int .i64 o.qty) /\ w.cell? ⟨b, off + i * 9 + 8, none⟩ = some (.slice Aq nq cq) := by
 obtain ⟨es, h1, h2, h3⟩ := h
 have hil := (List.getElem?_eq_some_iff.1 hi).1
 have he : es[i]? = some (es[i]'(by omega)) := List.getElem?_eq_getElem _
 have hz : (es.zip l)[i]? = some (es[i]'(by omega), o) := by rw [List.getElem?_zip_eq_some]; exact ⟨he, hi⟩
 obtain ⟨b, off, ha, hx⟩ := h3.at_ hz
 exact ⟨b, off, ha, _, _, _, h2 i _ o he hi, hx 0 _ rfl, hx 1 _ rfl, hx 2 _ rfl, hx 3 _ rfl, hx 4 _ rfl, hx 5 _ rfl, hx 6 _ rfl, hx 7 _ rfl, hx 8 _ rfl⟩
def QOwn (lo : Nat) (w : World) (es : List QS) (l : List POp) : Prop := ∀ (i : Nat) e o, es[i]? = some e -> l[i]? = some o -> w.ownsRow lo 3 1 (.slice e.A e.n e.c) o.qtys.length (o.qtys.flatMap iCells)
def OutOps (lo : Nat) (w : World) (v : Value) (l : List POp) : Prop := ∃ es : List QS, es.length = l.length /\ QOwn lo w es l /\ w.ownsRow lo 31 9 v l.length ((es.zip l).flatMap opCells)
theorem OutOps.nil (lo : Nat) (w : World) : OutOps lo w (.slice none 0 0) [] := ⟨[], rfl, fun i e o h => by simp at h, World.ownsRow_nil _ _ _ _⟩
theorem OutOps.later {lo : Nat} {w w' : World} {v : Value} {l : List POp} (h : OutOps lo w v l) (hb : Later w w') : OutOps lo w' v l := by
 obtain ⟨es, h1, h2, h3⟩ := h
 exact ⟨es, h1, fun i e o a b => own_later (h2 i e o a b) hb, own_later h3 hb⟩
theorem OutOps.weaken {lo lo' : Nat} {w : World} {v : Value} {l : List POp} (h : OutOps lo w v l) (hl : lo' <= lo) : OutOps lo' w v l := by
 obtain ⟨es, h1, h2, h3⟩ := h
 exact ⟨es, h1, fun i e o a b => own_weaken (h2 i e o a b) hl, own_weaken h3 hl⟩
theorem OutOps.box {lo : Nat} {w w' : World} {v : Value} {l : List POp} {g : Nat} {T : TypeId} {cs : List Value} (h : OutOps lo w v l) (hr : Row w g T cs) (h1 : 31 ≠ T) (h2 : 3 ≠ T) (o : Only g w w') : OutOps lo w' v l := by
 obtain ⟨es, k1, k2, k3⟩ := h
 exact ⟨es, k1, fun i e p a b => own_only (k2 i e p a b) o (own_box (k2 i e p a b) hr h2), own_only k3 o (own_box k3 hr h1)⟩
theorem OutOps.ops {lo : Nat} {w : World} {v : Value} {l : List POp} (h : OutOps lo w v l) : OpsIn w v l := by
 obtain ⟨es, h1, h2, h3⟩ := h
 have hz : (es.zip l).length = l.length := by rw [List.length_zip]; omega
 exact ⟨es, h1, fun i e o a b => Sq.of_own iCells_ln (h2 i e o a b), Sq.of_own opCells_len (by rw [hz]; exact h3)⟩
theorem apart_types {w : World} {B B' s s' n n' : Nat} {e e' : TypeId} {v v' : Value} {xs xs' : List Value} (h : w.ownsRow B e s v n xs) (k : w.ownsRow B' e' s' v' n' xs') (hne : e ≠ e') : ApartV v v' := by
 intro j h1 h2
 obtain ⟨-, h⟩ := h
 obtain ⟨-, k⟩ := k
 rcases h with ⟨rfl, -⟩ | ⟨g, cap, cur, rfl, a2, a3, -⟩
 ·cases h1
 rcases k with ⟨rfl, -⟩ | ⟨g', cap', cur', rfl, b2, b3, -⟩
 ·cases h2
 have e1 : g = j := by injection h1
 have e2 : g' = j := by injection h2
 subst e1 e2
 rw [a3] at b3
 injection b3 with b3
 injection b3 with b4 b5
 exact hne b5
theorem OutOps.snoc {lo : Nat} {w w' : World} {v v' : Value} {l : List POp} {es : List QS} (hl : es.length = l.length) (hq : QOwn lo w es l) (hv : w.ownsRow lo 31 9 v l.length ((es.zip l).flatMap opCells)) (hg : w.grownBy w' v.ownBlock) (e : QS) (o : POp) (he : w.ownsRow lo 3 1 (.slice e.A e.n e.c) o.qtys.length (o.qtys.flatMap iCells))
 (hown : w'.ownsRow lo 31 9 v' (l.length + 1) ((es.zip l).flatMap opCells ++ opCells (e, o))) : OutOps lo w' v' (l ++ [o]) := by
 refine ⟨es ++ [e], by simp [hl], fun i e' o' h1 h2 => ?_, ?_⟩
 ·by_cases hi : i < l.length
  ·rw [List.getElem?_append_left (by omega)] at h1
   rw [List.getElem?_append_left hi] at h2
   have := hq i e' o' h1 h2
   exact own_kept this hg (apart_types this hv (by decide))
  ·rw [List.getElem?_append_right (by omega)] at h1
   rw [List.getElem?_append_right (by omega)] at h2
   have h3 := (List.getElem?_eq_some_iff.1 h2).1
   have h4 : i - l.length = 0 := by simp at h3; omega
   rw [hl, h4] at h1
   rw [h4] at h2
   simp at h1 h2; subst h1 h2
   exact own_kept he hg (apart_types he hv (by decide))
 ·rw [List.length_append, List.length_singleton, List.zip_append hl, List.flatMap_append]
  simpa using hown
theorem run_neq_nil (w : World) (t e : TypeId) (a : Option Addr) (n c : Nat) (h : Tryz.prog.underlying t = some (.slice e)) : (binOp .neq t (.slice a n c) (.slice none 0 0)).run Tryz.prog w = .ok (.bool (!a.isNone)) w := by
 simp only [binOp]
 simp [Op.equal, Op.maxDepth, Lib.run_equalIn_slice_nil w 9999 t e a n c 0 0 h]
def madeT (D : PBook) (p : Int) (j : Nat) : List Int := ((D.mks.take j).filter fun x => decide (x.period = p)).map (·.qty)
theorem madeT_all {D : PBook} {p : Int} {j : Nat} (h : D.mks.length <= j) : madeT D p j = madeL D p := by unfold madeT madeL; rw [List.take_of_length_le h]
theorem madeT_yes {D : PBook} {p : Int} {j : Nat} {x : PMk} (h : D.mks[j]? = some x) (hp : x.period = p) : madeT D p (j+1) = madeT D p j ++ [x.qty] := by
 unfold madeT; rw [List.take_add_one, h, List.filter_append, List.map_append]; simp [hp]
theorem madeT_no {D : PBook} {p : Int} {j : Nat} {x : PMk} (h : D.mks[j]? = some x) (hp : x.period ≠ p) : madeT D p (j+1) = madeT D p j := by
 unfold madeT; rw [List.take_add_one, h, List.filter_append, List.map_append]; simp [hp]
theorem madeT_len {D : PBook} {p : Int} (j : Nat) : (madeT D p j).length <= D.mks.length := by
 unfold madeT; rw [List.length_map]
 have h1 := List.length_filter_le (fun x : PMk => decide (x.period = p)) (D.mks.take j)
 rw [List.length_take] at h1; omega
def MadeP (w : World) (l : List Int) (e : Ending) (w' : World) : Prop := ∃ A n c, e = .returned (.slice A n c) /\ w'.ownsRow w.heap.size 3 1 (.slice A n c) l.length (l.flatMap iCells) /\ (l = [] -> A = none) /\ Later w w'
set_option maxHeartbeats 2000000 in
theorem made_calls (w : World) (A1 A2 A3 A4 : Option Addr) (n1 n2 n3 n4 c1 c2 c3 c4 : Nat) (D : PBook) (h : Sq 3 mCells w (.slice A4 n4 c4) D.mks) (hl : D.mks.length <= 1000) (p : Int) :
 Calls Tryz.prog 93 #[.agg #[.slice A1 n1 c1, .int .i64 D.hor, .int .i64 D.now, .slice A2 n2 c2, .slice A3 n3 c3, .slice A4 n4 c4], .int .i64 p] w (MadeP w (madeL D p)) := by
 have H := hide h
 have hn4 : n4 = D.mks.length := by
  obtain ⟨_, _, _, e, e2, -⟩ := h.form
  injection e with _ e3 _; omega
 have HN := hide hn4; have HL := hide hl
 have hn9 : n4 <= 1000 := by omega
 clear h hn4 hl
 obtain ⟨W0, hW0⟩ : ∃ W0, W0 = (w.alloc (Obj.cells #[Value.slice A1 n1 c1, Value.int .i64 D.hor, Value.int .i64 D.now, Value.slice A2 n2 c2, Value.slice A3 n3 c3, Value.slice A4 n4 c4] 27)) := ⟨_, rfl⟩
 obtain ⟨hb0, r0, hsz0⟩ := boxes1 w [.slice A1 n1 c1, .int .i64 D.hor, .int .i64 D.now, .slice A2 n2 c2, .slice A3 n3 c3, .slice A4 n4 c4] 27 hW0
 have B0 := hide hb0; have HW0 := hide hW0; have HSZ0 := hide hsz0
 have R0 := hide r0
 clear hb0 hW0 hsz0 r0
 go_enter Tryz.func93, Tryz.ntmps93
 go_upto_region 1 with fail
 rw [<- HW0.out]
 have r_d := R0.out.later (Later.refl W0)
 have d0 := r_d.cell (i := 0) rfl; have d1 := r_d.cell (i := 1) rfl; have d2 := r_d.cell (i := 2) rfl; have d3 := r_d.cell (i := 3) rfl; have d4 := r_d.cell (i := 4) rfl; have d5 := r_d.cell (i := 5) rfl
 clear r_d
 go_wp2_with fail
 clear d0 d1 d2 d3 d4 d5
 go_loopw [5, 11] (fun ov i wr => ∃ (j : Nat) (A5 : Option Addr) (n5 c5 : Nat), ov = .slice A5 n5 c5 /\ i = .int .i64 (j : Int) /\ j <= n4 /\ Hid (wr.ownsRow W0.heap.size 3 1 (.slice A5 n5 c5) (madeT D p j).length ((madeT D p j).flatMap iCells)) /\ Hid (madeT D p j = [] -> A5 = none) /\ Hid (Later W0 wr)) (fun _ i _ => (n4 - intOf i).toNat)
 case atStart => exact ⟨0, none, 0, 0, rfl, rfl, Nat.zero_le _, hide (World.ownsRow_nil _ _ _ _), hide (fun _ => rfl), hide (Later.refl _)⟩
 case round =>
  obtain ⟨j, A5, n5, c5, rfl, rfl, hj, HOWN, HNIL, HLW⟩ := hrel
  by_cases hjn : j < n4
  ·obtain ⟨x, hx⟩ : ∃ x, D.mks[j]? = some x := ⟨D.mks[j]'(by have := HN.out; omega), List.getElem?_eq_getElem _⟩
   obtain ⟨b1, off1, rfl, x1, x2, x3⟩ := (H.out.later (B0.out.trans HLW.out)).at3 hx
   have HX := hide hx
   have hj0 : (0 : Int) <= (j : Int) := by omega
   have hj1 : (j : Int) < n4 := by omega
   clear hx
   have r_d := R0.out.later HLW.out
   have d0 := r_d.cell (i := 0) rfl; have d1 := r_d.cell (i := 1) rfl; have d2 := r_d.cell (i := 2) rfl; have d3 := r_d.cell (i := 3) rfl; have d4 := r_d.cell (i := 4) rfl; have d5 := r_d.cell (i := 5) rfl
   clear r_d
   go_upto_region 5 with fail
   obtain ⟨W3, hW3⟩ : ∃ W3, W3 = wr.alloc (Obj.cells #[Value.int .i64 x.item, Value.int .i64 x.period, Value.int .i64 x.qty] 43) := ⟨_, rfl⟩
   have hb3 : Later wr W3 := by rw [hW3]; exact (Later.refl _).alloc _
   have hr3 : Row W3 wr.heap.size 43 [.int .i64 x.item, .int .i64 x.period, .int .i64 x.qty] := by rw [hW3]; exact Row.new _ _ _
   rw [<- hW3]
   have HB3 := hide hb3
   clear hW3 d0 d1 d2 d3 d4 d5 x1 x2 x3 hb3
   have x1 := hr3.cell (i := 1) rfl; have x2 := hr3.cell (i := 2) rfl
   clear hr3
   by_cases hp : x.period = p
   ·have t1 : (x.period == p) = true := by simpa using hp
    obtain ⟨L, hL⟩ : ∃ L, L = madeT D p j := ⟨_, rfl⟩
    have HTY : Hid (madeT D p (j+1) = L ++ [x.qty]) := hide (by rw [hL]; exact madeT_yes HX.out hp)
    have HLL : Hid (L.length <= 1000) := hide (by rw [hL]; have := madeT_len (D := D) (p := p) j; have := HL.out; omega)
    rw [<- hL] at HOWN
    have hn5 : n5 = L.length := (own_len3 HOWN.out).1
    subst hn5
    clear hL hp
    have HOWN4 : Hid ((W3.alloc (Obj.cells #[Value.int .i64 x.qty] 3)).ownsRow W0.heap.size 3 1 (.slice A5 L.length c5) L.length (L.flatMap iCells)) := hide (World.ownsRow.alloc (own_later HOWN.out HB3.out) _)
    have HSRC : Hid (Src (W3.alloc (Obj.cells #[Value.int .i64 x.qty] 3)) 1 (.slice (some ⟨W3.heap.size, 0, none⟩) 1 1) 1 [.int .i64 x.qty]) := hide ⟨rfl, by simp; rfl, .inr ⟨_, _, rfl, fun j u hj => by rw [addr_add, Nat.zero_add]; exact (Row.new W3 3 [.int .i64 x.qty]).cell hj⟩⟩
    have HBS : Hid (W0.heap.size <= (W3.alloc (Obj.cells #[Value.int .i64 x.qty] 3)).heap.size) := hide (((HLW.out.trans HB3.out).alloc _).size)
    go_wp2_with (at_builtin; (refine wpList_append_src rfl (.tmp 19) (.tmp 22) 23 rfl W0.heap.size 3 (.int .i64 0) 1 8 Tryz.underlying23 info_int rfl (by omega) (by omega) _ L.length _ rfl HOWN4.out _ 1 [.int .i64 x.qty] rfl HSRC.out (by have := HLL.out; omega) HBS.out ?_); intro v' w5 hown hg hblk; obtain ⟨A6, c6, rfl⟩ := own_form hown; have HO5 := hide hown; have HG5 := hide hg; clear hown hg hblk)
    refine ⟨⟨j+1, A6, L.length + 1, c6, rfl, by go_num, by omega, hide ?_, hide (fun h => ?_), hide ?_⟩, by simp [intOf]; omega⟩
    ·rw [HTY.out, List.length_append, List.flatMap_append]; exact HO5.out
    ·rw [HTY.out] at h; simp at h
    ·exact ((HLW.out.trans HB3.out).alloc _).grown HG5.out (fun k hk => (World.ownsRow.lt HOWN.out k hk).1)
   ·have t1 : (x.period == p) = false := by simpa using hp
    have HTN : Hid (madeT D p (j+1) = madeT D p j) := hide (madeT_no HX.out hp)
    clear hp
    go_wp2_with fail
    refine ⟨⟨j+1, A5, n5, c5, rfl, by go_num, by omega, hide ?_, hide ?_, hide (HLW.out.trans HB3.out)⟩, by simp [intOf]; omega⟩
    ·rw [HTN.out]; exact own_later HOWN.out HB3.out
    ·rw [HTN.out]; exact HNIL.out
  ·obtain rfl : j = n4 := by omega
   have HA : Hid (madeT D p j = madeL D p) := hide (madeT_all (by have := HN.out; omega))
   rw [HA.out] at HOWN HNIL
   go_wp2_with fail
   go_ret
   exact ⟨A5, n5, c5, rfl, own_weaken HOWN.out B0.out.size, HNIL.out, B0.out.trans HLW.out⟩
end Go.Proofs.YtncbebfhakcgdaaGreat
