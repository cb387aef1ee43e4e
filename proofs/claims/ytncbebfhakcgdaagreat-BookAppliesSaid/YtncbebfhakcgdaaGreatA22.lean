/- Books: cancel. -/
import Derived.Test.YtncbebfhakcgdaaGreatA21
import Derived.Test.YtncbebfhakcgdaaGreatA7
import Derived.Laws.OwnMore
import Derived.Lib.Overlaps
import Derived.Lib.AppendZerosOnto
import Derived.Lib.AppendZeros
import Derived.Laws.Externs
set_option linter.unusedVariables false
set_option linter.unusedSimpArgs false
set_option maxRecDepth 100000
namespace Go.Proofs.YtncbebfhakcgdaaGreat
open Go.RowKit Go.Shelf
attribute [local go_sem ↓] Go.wp_at_zero Go.wp_at_succ
theorem own_some {w : World} {base : Nat} {T : TypeId} {size n m c : Nat} {A : Option Addr} {xs : List Value} (h : w.ownsRow base T size (.slice A n c) m xs) (h0 : 0 < m) : ∃ g, A = some ⟨g, 0, none⟩ := by
 obtain ⟨-, h⟩ := h
 rcases h with ⟨-, h2⟩ | ⟨g, cap, cur, h1, -⟩
 ·omega
 ·injection h1 with h1; exact ⟨g, h1⟩
theorem take_drop_at {α : Type} {l : List α} {i : Nat} {x : α} (h : l[i]? = some x) : l = l.take i ++ x :: l.drop (i + 1) := by
 obtain ⟨hi, e⟩ := List.getElem?_eq_some_iff.1 h
 have h2 : l.drop i = x :: l.drop (i + 1) := by rw [List.drop_eq_getElem_cons hi, e]
 rw [<- h2, List.take_append_drop]
theorem ord_drop {l : List POrd} (hp : l.Pairwise fun a b => a.id < b.id) {i : Nat} {x : POrd} (h : l[i]? = some x) : l.filter (fun y => decide (y.id ≠ x.id)) = l.take i ++ l.drop (i + 1) := by
 have e := take_drop_at h
 have hp2 := hp
 rw [e, List.pairwise_append] at hp2
 obtain ⟨p1, p2, p3⟩ := hp2
 obtain ⟨p4, p5⟩ := List.pairwise_cons.1 p2
 conv => lhs; rw [e]
 rw [List.filter_append, List.filter_cons, if_neg (by simp), filt_all (fun y hy => by have := p3 y hy x (by simp); simp; omega), filt_all (fun y hy => by have := p4 y hy; simp; omega)]
theorem KIn.stepO {w0 w w' : World} {G : Nat} {A1 A2 A3 A4 A' : Option Addr} {n1 n2 n3 n4 c1 c2 c3 c4 n' c' : Nat} {D : PBook} (h : KIn w0 w G A1 A2 A3 A4 n1 n2 n3 n4 c1 c2 c3 c4 D) (hg : w.grownBy w' (Value.slice A3 n3 c3).ownBlock) (l : List POrd) (ho : w'.ownsRow w0.heap.size 29 4 (.slice A' n' c') l.length (l.flatMap oCells))
 (hf : ∀ k, (Value.slice A' n' c').ownBlock = some k -> (Value.slice A3 n3 c3).ownBlock = some k ∨ w.heap.size <= k) : KIn w0 (w'.setCell ⟨G, 4, none⟩ (.slice A' n' c')) G A1 A2 A' A4 n1 n2 n' n4 c1 c2 c' c4 { D with ords := l } := by
 have hG : ∀ k, (Value.slice A' n' c').ownBlock = some k -> k ≠ G := fun k hk => by
  rcases hf k hk with e | e
  ·exact h.bO k e
  ·have := h.row.lt; omega
 have lt : Later w0 (w'.setCell ⟨G, 4, none⟩ (.slice A' n' c')) := (h.own.lt.grown hg (fun k hk => (World.ownsRow.lt h.own.ords k hk).1)).setCell h.lo _
 have rk : Row w' G 75 [.slice A1 n1 c1, .int .i64 D.hor, .int .i64 D.now, .slice A2 n2 c2, .slice A3 n3 c3, .slice A4 n4 c4] := h.row.grown hg (fun e => by have := h.bO G e.symm; omega)
 obtain ⟨es, h1, h2⟩ := h.own.its
 exact ⟨{ lt := lt, its := ⟨es, h1, own_only (own_kept h2 hg (h.own.aIO)) (Only.one G w' 4 _) h.bI⟩, caps := own_only (own_kept h.own.caps hg (h.own.aCO)) (Only.one G w' 4 _) h.bC, ords := own_only ho (Only.one G w' 4 _) hG, mks := own_only (own_kept h.own.mks hg (h.own.aOM.symm)) (Only.one G w' 4 _) h.bM, aIC := h.own.aIC, aIO := (fun k h3 h4 => by rcases hf k h4 with e | e; exact h.own.aIO k h3 e; have := (World.ownsRow.lt h2 k h3).2; omega), aIM := h.own.aIM, aCO := (fun k h3 h4 => by rcases hf k h4 with e | e; exact h.own.aCO k h3 e; have := (World.ownsRow.lt h.own.caps k h3).2; omega), aCM := h.own.aCM, aOM := ApartV.symm (fun k h3 h4 => by rcases hf k h4 with e | e; exact h.own.aOM.symm k h3 e; have := (World.ownsRow.lt h.own.mks k h3).2; omega) }, rk.set_ 4 _, h.lo, h.bI, h.bC, hG, h.bM⟩
theorem KIn.stepC {w0 w w' : World} {G : Nat} {A1 A2 A3 A4 A' : Option Addr} {n1 n2 n3 n4 c1 c2 c3 c4 n' c' : Nat} {D : PBook} (h : KIn w0 w G A1 A2 A3 A4 n1 n2 n3 n4 c1 c2 c3 c4 D) (hg : w.grownBy w' (Value.slice A2 n2 c2).ownBlock) (l : List Int) (ho : w'.ownsRow w0.heap.size 3 1 (.slice A' n' c') l.length (l.flatMap iCells))
 (hf : ∀ k, (Value.slice A' n' c').ownBlock = some k -> (Value.slice A2 n2 c2).ownBlock = some k ∨ w.heap.size <= k) : KIn w0 (w'.setCell ⟨G, 3, none⟩ (.slice A' n' c')) G A1 A' A3 A4 n1 n' n3 n4 c1 c' c3 c4 { D with caps := l } := by
 have hG : ∀ k, (Value.slice A' n' c').ownBlock = some k -> k ≠ G := fun k hk => by
  rcases hf k hk with e | e
  ·exact h.bC k e
  ·have := h.row.lt; omega
 have lt : Later w0 (w'.setCell ⟨G, 3, none⟩ (.slice A' n' c')) := (h.own.lt.grown hg (fun k hk => (World.ownsRow.lt h.own.caps k hk).1)).setCell h.lo _
 have rk : Row w' G 75 [.slice A1 n1 c1, .int .i64 D.hor, .int .i64 D.now, .slice A2 n2 c2, .slice A3 n3 c3, .slice A4 n4 c4] := h.row.grown hg (fun e => by have := h.bC G e.symm; omega)
 obtain ⟨es, h1, h2⟩ := h.own.its
 exact ⟨{ lt := lt, its := ⟨es, h1, own_only (own_kept h2 hg (h.own.aIC)) (Only.one G w' 3 _) h.bI⟩, caps := own_only ho (Only.one G w' 3 _) hG, ords := own_only (own_kept h.own.ords hg (h.own.aCO.symm)) (Only.one G w' 3 _) h.bO, mks := own_only (own_kept h.own.mks hg (h.own.aCM.symm)) (Only.one G w' 3 _) h.bM, aIC := (fun k h3 h4 => by rcases hf k h4 with e | e; exact h.own.aIC k h3 e; have := (World.ownsRow.lt h2 k h3).2; omega), aIO := h.own.aIO, aIM := h.own.aIM, aCO := ApartV.symm (fun k h3 h4 => by rcases hf k h4 with e | e; exact h.own.aCO.symm k h3 e; have := (World.ownsRow.lt h.own.ords k h3).2; omega), aCM := ApartV.symm (fun k h3 h4 => by rcases hf k h4 with e | e; exact h.own.aCM.symm k h3 e; have := (World.ownsRow.lt h.own.mks k h3).2; omega), aOM := h.own.aOM }, rk.set_ 3 _, h.lo, h.bI, hG, h.bO, h.bM⟩
theorem KIn.stepM {w0 w w' : World} {G : Nat} {A1 A2 A3 A4 A' : Option Addr} {n1 n2 n3 n4 c1 c2 c3 c4 n' c' : Nat} {D : PBook} (h : KIn w0 w G A1 A2 A3 A4 n1 n2 n3 n4 c1 c2 c3 c4 D) (hg : w.grownBy w' (Value.slice A4 n4 c4).ownBlock) (l : List PMk) (ho : w'.ownsRow w0.heap.size 43 3 (.slice A' n' c') l.length (l.flatMap mCells))
 (hf : ∀ k, (Value.slice A' n' c').ownBlock = some k -> (Value.slice A4 n4 c4).ownBlock = some k ∨ w.heap.size <= k) : KIn w0 (w'.setCell ⟨G, 5, none⟩ (.slice A' n' c')) G A1 A2 A3 A' n1 n2 n3 n' c1 c2 c3 c' { D with mks := l } := by
 have hG : ∀ k, (Value.slice A' n' c').ownBlock = some k -> k ≠ G := fun k hk => by
  rcases hf k hk with e | e
  ·exact h.bM k e
  ·have := h.row.lt; omega
 have lt : Later w0 (w'.setCell ⟨G, 5, none⟩ (.slice A' n' c')) := (h.own.lt.grown hg (fun k hk => (World.ownsRow.lt h.own.mks k hk).1)).setCell h.lo _
 have rk : Row w' G 75 [.slice A1 n1 c1, .int .i64 D.hor, .int .i64 D.now, .slice A2 n2 c2, .slice A3 n3 c3, .slice A4 n4 c4] := h.row.grown hg (fun e => by have := h.bM G e.symm; omega)
 obtain ⟨es, h1, h2⟩ := h.own.its
 exact ⟨{ lt := lt, its := ⟨es, h1, own_only (own_kept h2 hg (h.own.aIM)) (Only.one G w' 5 _) h.bI⟩, caps := own_only (own_kept h.own.caps hg (h.own.aCM)) (Only.one G w' 5 _) h.bC, ords := own_only (own_kept h.own.ords hg (h.own.aOM)) (Only.one G w' 5 _) h.bO, mks := own_only ho (Only.one G w' 5 _) hG, aIC := h.own.aIC, aIO := h.own.aIO, aIM := (fun k h3 h4 => by rcases hf k h4 with e | e; exact h.own.aIM k h3 e; have := (World.ownsRow.lt h2 k h3).2; omega), aCO := h.own.aCO, aCM := (fun k h3 h4 => by rcases hf k h4 with e | e; exact h.own.aCM k h3 e; have := (World.ownsRow.lt h.own.caps k h3).2; omega), aOM := (fun k h3 h4 => by rcases hf k h4 with e | e; exact h.own.aOM k h3 e; have := (World.ownsRow.lt h.own.ords k h3).2; omega) }, rk.set_ 5 _, h.lo, h.bI, h.bC, h.bO, hG⟩
theorem KIn.putO {w0 w w' : World} {G : Nat} {A1 A2 A3 A4 A' : Option Addr} {n1 n2 n3 n4 c1 c2 c3 c4 n' c' : Nat} {D : PBook} (h : KIn w0 w G A1 A2 A3 A4 n1 n2 n3 n4 c1 c2 c3 c4 D) (hg : w.grownBy w' (Value.slice A3 n3 c3).ownBlock) (l : List POrd) (ho : w'.ownsRow w0.heap.size 29 4 (.slice A' n' c') l.length (l.flatMap oCells))
 (hf : ∀ k, (Value.slice A' n' c').ownBlock = some k -> (Value.slice A3 n3 c3).ownBlock = some k ∨ w.heap.size <= k) (hm : MayP { D with ords := l }) (r : Except Int PBook) (hr : r = .ok { D with ords := l }) : KeepP w0 G r (.returned (.tuple #[])) (w'.setCell ⟨G, 4, none⟩ (.slice A' n' c')) := by
 have hs := h.stepO hg l ho hf
 refine ⟨hs.own.lt, ?_⟩
 rw [hr]
 exact ⟨rfl, hm, _, _, _, _, _, _, _, _, _, _, _, _, hs⟩
theorem grown_only {w w1 w' : World} {g : Nat} (h : Later w w1) (o : Only g w1 w') : w.grownBy w' (some g) := ⟨o.os.trans h.os, o.tape.trans h.tape, o.output.trans h.output, by rw [o.size]; exact h.size, fun b hb hne => (o.block b (fun e => hne (by rw [e]))).trans (h.block b hb)⟩
set_option maxHeartbeats 4000000 in
theorem can1_calls (w : World) (x : POrd) (G Gi : Nat) (id : Int) (cs : List Value) (hg : Row w G 31 cs) (h5 : cs[5]? = some (.int .i64 id)) :
 Calls Tryz.prog 77 #[.agg #[.int .i64 x.id, .int .i64 x.item, .int .i64 x.due, .int .i64 x.qty], .pointer (some ⟨G, 0, none⟩)] w (RetV w (.bool (decide (x.id = id)))) := by
 have HG := hide hg; have H5 := hide h5
 clear hg h5
 obtain ⟨W0, hW0⟩ : ∃ W0, W0 = (w.alloc (Obj.cells #[Value.int .i64 x.id, Value.int .i64 x.item, Value.int .i64 x.due, Value.int .i64 x.qty] 29)) := ⟨_, rfl⟩
 have B0 := hide (show Later w W0 by rw [hW0]; exact (Later.refl _).alloc _)
 have HR0 := hide (show Row W0 w.heap.size 29 [.int .i64 x.id, .int .i64 x.item, .int .i64 x.due, .int .i64 x.qty] by rw [hW0]; exact Row.new _ _ _)
 have HW0 := hide hW0
 clear hW0
 go_enter Tryz.func77, Tryz.ntmps77
 go_upto_region 1 with fail
 rw [<- HW0.out]
 have d0 := HR0.out.cell (i := 0) rfl
 have g5 := (HG.out.later B0.out).cell (i := 5) H5.out
 go_wp2_with fail
 go_ret
 exact ⟨by first | rfl | simp | (simp; rfl), B0.out⟩
set_option maxHeartbeats 1000000 in
theorem cancel_calls (w : World) (w0 : World) (G : Nat) (A1 A2 A3 A4 Aq : Option Addr) (n1 n2 n3 n4 nq c1 c2 c3 c4 cq : Nat) (D : PBook) (o : POp) (hK : KIn w0 w G A1 A2 A3 A4 n1 n2 n3 n4 c1 c2 c3 c4 D) (hmay : MayP D) :
 Calls Tryz.prog 34 #[.pointer (some ⟨G, 0, none⟩), .agg #[.int .i64 o.kind, .int .i64 o.ord.id, .int .i64 o.ord.item, .int .i64 o.ord.due, .int .i64 o.ord.qty, .int .i64 o.id, .int .i64 o.period, .int .i64 o.qty, .slice Aq nq cq]] w (KeepP w0 G (canV D o.id)) := by
 have HK := hide hK; have HMY := hide hmay
 clear hK hmay
 obtain ⟨W0, hW0⟩ : ∃ W0, W0 = (w.alloc (Obj.cells #[Value.int .i64 o.kind, Value.int .i64 o.ord.id, Value.int .i64 o.ord.item, Value.int .i64 o.ord.due, Value.int .i64 o.ord.qty, Value.int .i64 o.id, Value.int .i64 o.period, Value.int .i64 o.qty, Value.slice Aq nq cq] 31)) := ⟨_, rfl⟩
 have B0 := hide (show Later w W0 by rw [hW0]; exact (Later.refl _).alloc _)
 have HR0 := hide (show Row W0 w.heap.size 31 [.int .i64 o.kind, .int .i64 o.ord.id, .int .i64 o.ord.item, .int .i64 o.ord.due, .int .i64 o.ord.qty, .int .i64 o.id, .int .i64 o.period, .int .i64 o.qty, .slice Aq nq cq] by rw [hW0]; exact Row.new _ _ _)
 have HW0 := hide hW0
 clear hW0
 go_enter Tryz.func34, Tryz.ntmps34
 go_upto_region 1 with fail
 rw [<- HW0.out]
 have hk := HK.out.later B0.out
 have d4 := hk.row.cell (i := 4) rfl
 have HN := hide (own_len3 hk.own.ords)
 have hml := HMY.out.ol
 have hmf := mkF
 go_upto_region 2 with (first | (go_at_call 76; refine (idxO1_calls _ _ D.ords (Sq.of_own oCells_len hk.own.ords) (by omega) _ ⟨fun _ _ => by kernel_rfl⟩ w.heap.size (fun x => decide (x.id = o.id)) (fun W x hW _ => can1_calls W x w.heap.size 0 o.id _ (HR0.out.later hW) rfl)).mono ?_; rintro e w1 ⟨z, rfl, hz, b1⟩))
 rcases hz with ⟨rfl, hz⟩ | ⟨i, x, rfl, hxi, hxp, hz⟩
 ·have HV : Hid (canV D o.id = .error 8) := hide (by unfold canV; rw [if_pos (List.any_eq_false.2 fun y hy => by have := hz y hy; simpa using this)])
  clear hz
  go_wp2_with (go_at_call 29; refine (must_no _ _).mono ?_; rintro e w' ⟨rfl, rfl⟩)
  exact ⟨rfl, hk.own.lt.trans b1, by rw [HV.out]⟩
 ·have hil := (List.getElem?_eq_some_iff.1 hxi).1
  have hid : x.id = o.id := by simpa using hxp
  obtain ⟨g3, rfl⟩ := own_some hk.own.ords (by omega)
  have L2 : Hid (Later w0 w1) := hide (hk.own.lt.trans b1)
  have hk1 := hk.later b1
  have HSQ := hide (Sq.of_own oCells_len hk1.own.ords)
  obtain ⟨b3, off3, ha3, hx3⟩ := HSQ.out.at_ hxi
  injection ha3 with ha3; injection ha3 with ha3 ha4
  subst ha3 ha4
  have x2 := hx3 2 _ rfl
  rw [Nat.zero_add] at x2
  have HT1 : Hid (∀ w', Later w1 w' -> w'.cell? ⟨G, 4, none⟩ = some (.slice (some ⟨g3, 0, none⟩) n3 c3) /\ w'.cell? ⟨g3, i * 4 + 2, none⟩ = some (.int .i64 x.due) /\ w'.cell? ⟨G, 2, none⟩ = some (.int .i64 D.now)) := hide fun w' hb => ⟨(hk1.row.later hb).cell rfl, Later.cell hb x2, (hk1.row.later hb).cell rfl⟩
  have t0 : decide (0 <= (i : Int)) = true := by simp
  have hin : (i : Int) < n3 := by have := HN.out.1; omega
  have hi0 : (0 : Int) <= (i : Int) := by omega
  clear hx3 x2 hz d4
  go_upto_region 3 with (go_at_call 29; refine (must_yes _ _).mono ?_; rintro e w' ⟨rfl, rfl⟩)
  have hmx : Tryz.prog.follows .mixedOrders = true := by kernel_rfl
  by_cases g : x.due < D.now
  ·have t3 : decide (D.now <= x.due) = false := by simp; omega
   have HV : Hid (canV D o.id = .error 13) := hide (by
    unfold canV
    rw [if_neg (by rw [List.any_eq_true.2 ⟨x, List.mem_of_getElem? hxi, hxp⟩]; simp), if_pos (List.any_eq_true.2 ⟨x, List.mem_of_getElem? hxi, by simp; exact ⟨hid, g⟩⟩)])
   refine wp_region_N (fun w' => w'.cell? ⟨G, 4, none⟩ = some (.slice (some ⟨g3, 0, none⟩) n3 c3) /\ w'.cell? ⟨g3, i * 4 + 2, none⟩ = some (.int .i64 x.due) /\ w'.cell? ⟨G, 2, none⟩ = some (.int .i64 D.now)) [] hmx (HT1.out _ lt_) (fun hHeld => ?_)
   refine tkB 15 0 ?_
   refine tkB 16 1 ?_
   refine tkB 17 2 ?_
   refine tkB 18 3 ?_
   refine tkB 19 4 ?_
   refine tkB 20 5 ?_
   refine tkB 21 6 ?_
   refine tkB 22 7 ?_
   refine tkB 23 8 ?_
   refine tkB 24 9 ?_
   refine tkB 25 10 ?_
   refine tkB 26 11 ?_
   refine tkB 27 12 ?_
   refine tkB 28 13 ?_
   refine tkB 29 14 ?_
   refine wpAnyN_ready (rs := [15]) (by kernel_rfl) (by simp) ?_
   refine AllReadyN.held rfl (by rfl) (fun K hK => ?_) AllReadyN.nil
   go_simp
   refine (must_no _ _).mono ?_
   rintro e w2 ⟨rfl, rfl⟩
   exact ⟨rfl, L2.out.drew, by rw [HV.out]⟩
  ·have t3 : decide (D.now <= x.due) = true := by simp; omega
   have HV : Hid (canV D o.id = .ok { D with ords := D.ords.take i ++ D.ords.drop (i + 1) }) := hide (by
    unfold canV
    rw [if_neg (by rw [List.any_eq_true.2 ⟨x, List.mem_of_getElem? hxi, hxp⟩]; simp), if_neg (by
     intro e
     obtain ⟨y, hy, e⟩ := List.any_eq_true.1 e
     simp only [decide_eq_true_iff] at e
     have := pw_inj HMY.out.oPw hy (List.mem_of_getElem? hxi) (by rw [e.1, hid])
     subst this; exact g e.2), <- ord_drop HMY.out.oPw hxi, hid])
   have hk2 := hk1.later (show Later w1 w1.drew from (Later.refl _).drew)
   refine wp_region_N (fun w' => w'.cell? ⟨G, 4, none⟩ = some (.slice (some ⟨g3, 0, none⟩) n3 c3) /\ w'.cell? ⟨g3, i * 4 + 2, none⟩ = some (.int .i64 x.due) /\ w'.cell? ⟨G, 2, none⟩ = some (.int .i64 D.now)) [] hmx (HT1.out _ lt_) (fun hHeld => ?_)
   refine tkB 15 0 ?_
   refine tkB 16 1 ?_
   refine tkB 17 2 ?_
   refine tkB 18 3 ?_
   refine tkB 19 4 ?_
   refine tkB 20 5 ?_
   refine tkB 21 6 ?_
   refine tkB 22 7 ?_
   refine tkB 23 8 ?_
   refine tkB 24 9 ?_
   refine tkB 25 10 ?_
   refine tkB 26 11 ?_
   refine tkB 27 12 ?_
   refine tkB 28 13 ?_
   refine tkB 29 14 ?_
   refine wpAnyN_ready (rs := [15]) (by kernel_rfl) (by simp) ?_
   refine AllReadyN.held rfl (by rfl) (fun K hK => ?_) AllReadyN.nil
   go_simp
   refine (must_yes _ _).mono ?_
   rintro e w2 ⟨rfl, rfl⟩
   refine hK.out _ _ ?_ (fun hHeld => ?_)
   ·exact HT1.out _ lt_
   clear hK K
   try simp only [Act.put, s1_, s2_, s3_]
   refine wpAnyN_done (by kernel_rfl) ?_ _
   clear hHeld
   go_wp2_with (first | (go_at_call 78; (with_reducible refine (delO_calls _ w0.heap.size g3 c3 n3 D.ords i (by have := HN.out.1; omega) hk2.own.ords (by have := HMY.out.ol; omega)).mono ?_); rintro e w3 ⟨rfl, ho3, w4, hb4, hon4⟩; have hgr := grown_only hb4 hon4; have rk := hk2.row.grown hgr (fun e => by have := hk2.bO G e.symm; omega); have k4 := rk.cell (i := 4) rfl; have kz4 := rk.frozen 4; clear rk))
   go_end0
   have hlen : (D.ords.take i ++ D.ords.drop (i + 1)).length = n3 - 1 := by have := HN.out.1; simp; omega
   refine hk2.putO hgr (D.ords.take i ++ D.ords.drop (i + 1)) (by rw [hlen]; exact ho3) (fun k hk => ?_) ?_ _ HV.out
   ·exact .inl hk
   ·have hm := HMY.out
    rw [<- ord_drop hm.oPw hxi]
    refine ⟨head_of hm.head rfl rfl ⟨hm.head.t0, hm.head.t40⟩ ⟨hm.head.cl, hm.head.caps⟩, ?_, hm.ml, fun x hx => hm.ords x (List.mem_filter.1 hx).1, hm.mks, rises_of_pw (f := POrd.id) (hm.oPw.filter _), hm.mris⟩
    have := List.length_filter_le (fun y : POrd => decide (y.id ≠ x.id)) D.ords
    have := hm.ol
    dsimp only; omega
end Go.Proofs.YtncbebfhakcgdaaGreat
namespace Go.Proofs.YtncbebfhakcgdaaGreat
open Go.RowKit Go.Shelf
attribute [local go_sem ↓] Go.wp_at_zero Go.wp_at_succ
theorem grown_trans_alloc {w w' : World} {o : Obj} {r : Option Nat} (h : (w.alloc o).grownBy w' r) : w.grownBy w' r := ⟨h.os, h.tape, h.output, Nat.le_trans (by simp) h.size, fun b hb hne => (h.block b (by simp; omega) hne).trans (Below.heap_alloc w o b hb)⟩
def capLen (w : World) (G : Nat) : Nat := match w.cell? ⟨G, 3, none⟩ with
 | some (.slice _ n _) => n
 | _ => 0
theorem capLen_eq {w : World} {G : Nat} {A : Option Addr} {n c : Nat} (h : w.cell? ⟨G, 3, none⟩ = some (.slice A n c)) : capLen w G = n := by unfold capLen; rw [h]
theorem iCells_map (l : List Int) : l.flatMap iCells = l.map (fun z => Value.int .i64 z) := by
 induction l with
 | nil => rfl
 | cons x l ih => rw [List.flatMap_cons, ih]; rfl
theorem KIn.storeC {w0 w : World} {G g2 : Nat} {A1 A3 A4 : Option Addr} {n1 n2 n3 n4 c1 c2 c3 c4 : Nat} {D : PBook} (h : KIn w0 w G A1 (some ⟨g2, 0, none⟩) A3 A4 n1 n2 n3 n4 c1 c2 c3 c4 D) (p : Nat) (hp : p < n2) (q : Int) (hm : MayP { D with caps := D.caps.set p q }) (r : Except Int PBook) (hr : r = .ok { D with caps := D.caps.set p q }) :
 KeepP w0 G r (.returned (.tuple #[])) (w.setCell ⟨g2, p, none⟩ (.int .i64 q)) := by
 have hb := (World.ownsRow.lt h.own.caps g2 rfl).1
 have lt : Later w0 (w.setCell ⟨g2, p, none⟩ (.int .i64 q)) := h.own.lt.setCell hb _
 have hne : g2 ≠ G := h.bC g2 rfl
 have hl : n2 = D.caps.length := (own_len3 h.own.caps).1
 have hs : (w.setCell ⟨g2, p, none⟩ (.int .i64 q)).ownsRow w0.heap.size 3 1 (.slice (some ⟨g2, 0, none⟩) n2 c2) (D.caps.set p q).length ((D.caps.set p q).flatMap iCells) := by
  rw [List.length_set, iCells_map, List.map_set, <- iCells_map, <- hl]
  have h2 := h.own.caps
  rw [<- hl] at h2
  exact (h2.stored p (.int .i64 q)).1
 obtain ⟨es, h1, h2⟩ := h.own.its
 have o := Only.one g2 w p (.int .i64 q)
 refine ⟨lt, ?_⟩
 rw [hr]
 exact ⟨rfl, hm, _, _, _, _, _, _, _, _, _, _, _, _, ⟨lt, ⟨es, h1, own_only h2 o (fun k hk e => h.own.aIC k hk (by rw [e]; rfl))⟩, hs, own_only h.own.ords o (fun k hk e => h.own.aCO g2 rfl (by rw [hk, e])), own_only h.own.mks o (fun k hk e => h.own.aCM g2 rfl (by rw [hk, e])), h.own.aIC, h.own.aIO, h.own.aIM, h.own.aCO, h.own.aCM, h.own.aOM⟩, h.row.only o (Ne.symm hne), h.lo, h.bI, h.bC, h.bO, h.bM⟩
theorem caps_may {D : PBook} (h : MayP D) {l : List Int} (h1 : l.length <= 40) (h2 : ∀ c ∈ l, 0 <= c /\ c <= 100) : MayP { D with caps := l } := ⟨head_of h.head rfl rfl ⟨h.head.t0, h.head.t40⟩ ⟨h1, h2⟩, h.ol, h.ml, h.ords, h.mks, h.oris, h.mris⟩
set_option maxHeartbeats 2000000 in
theorem capacity_calls (w : World) (w0 : World) (G : Nat) (A1 A2 A3 A4 Aq : Option Addr) (n1 n2 n3 n4 nq c1 c2 c3 c4 cq : Nat) (D : PBook) (o : POp) (hK : KIn w0 w G A1 A2 A3 A4 n1 n2 n3 n4 c1 c2 c3 c4 D) (hmay : MayP D) :
 Calls Tryz.prog 35 #[.pointer (some ⟨G, 0, none⟩), .agg #[.int .i64 o.kind, .int .i64 o.ord.id, .int .i64 o.ord.item, .int .i64 o.ord.due, .int .i64 o.ord.qty, .int .i64 o.id, .int .i64 o.period, .int .i64 o.qty, .slice Aq nq cq]] w (KeepP w0 G (capS D o.period o.qty)) := by
 have HK := hide hK; have HMY := hide hmay
 clear hK hmay
 obtain ⟨W0, hW0⟩ : ∃ W0, W0 = (w.alloc (Obj.cells #[Value.int .i64 o.kind, Value.int .i64 o.ord.id, Value.int .i64 o.ord.item, Value.int .i64 o.ord.due, Value.int .i64 o.ord.qty, Value.int .i64 o.id, Value.int .i64 o.period, Value.int .i64 o.qty, Value.slice Aq nq cq] 31)) := ⟨_, rfl⟩
 have B0 := hide (show Later w W0 by rw [hW0]; exact (Later.refl _).alloc _)
 have HR0 := hide (show Row W0 w.heap.size 31 [.int .i64 o.kind, .int .i64 o.ord.id, .int .i64 o.ord.item, .int .i64 o.ord.due, .int .i64 o.ord.qty, .int .i64 o.id, .int .i64 o.period, .int .i64 o.qty, .slice Aq nq cq] by rw [hW0]; exact Row.new _ _ _)
 have HW0 := hide hW0
 clear hW0
 go_enter Tryz.func35, Tryz.ntmps35
 go_upto_region 1 with fail
 rw [<- HW0.out]
 have hk := HK.out.later B0.out
 have x3 := HR0.out.cell (i := 6) rfl
 have x4 := HR0.out.cell (i := 7) rfl
 obtain ⟨c, hc⟩ : ∃ c, (if (0 <= o.qty /\ o.qty <= 100) then perE D o.period else 1) = c := ⟨_, rfl⟩
 by_cases hne : c ≠ 0
 ·have HV : Hid (capS D o.period o.qty = .error c) := hide (by
   unfold capS
   by_cases g : 0 <= o.qty /\ o.qty <= 100
   ·rw [if_pos g] at hc; rw [if_neg (by omega), hc, if_pos hne]
   ·rw [if_neg g] at hc; rw [if_pos (by omega), hc])
  by_cases g1 : 0 <= o.qty
  ·have t1 : decide (0 <= o.qty) = true := by simpa using g1
   obtain ⟨u, hu⟩ : ∃ u, decide (o.qty <= 100) = u := ⟨_, rfl⟩
   have HC : Hid ((if u = true then perE D o.period else 1) = c) := hide (by
    rw [<- hc, <- hu]
    by_cases g2 : o.qty <= 100
    ·rw [if_pos (by simpa using g2), if_pos ⟨g1, g2⟩]
    ·rw [if_neg (by simpa using g2), if_neg (fun h => g2 h.2)])
   clear hc
   go_wp2_with (go_at_call 79; (with_reducible refine (per_calls _ G A1 A2 A3 A4 n1 n2 n3 n4 c1 c2 c3 c4 D hk.row (Sq.of_own mCells_len hk.own.mks) (by have := HMY.out.ml; omega) o.period _ _ HC.out).mono ?_); rintro e w1 ⟨b1, hh⟩; obtain ⟨-, rfl⟩ := hh.resolve_left (fun h => hne h.1))
   exact ⟨rfl, hk.own.lt.trans b1, by rw [HV.out]⟩
  ·have t1 : decide (0 <= o.qty) = false := by simpa using g1
   have HC : Hid ((if false = true then perE D o.period else 1) = c) := hide (by rw [if_neg (by simp), <- hc, if_neg (fun h => g1 h.1)])
   clear hc
   go_wp2_with (go_at_call 79; (with_reducible refine (per_calls _ G A1 A2 A3 A4 n1 n2 n3 n4 c1 c2 c3 c4 D hk.row (Sq.of_own mCells_len hk.own.mks) (by have := HMY.out.ml; omega) o.period _ _ HC.out).mono ?_); rintro e w1 ⟨b1, hh⟩; obtain ⟨-, rfl⟩ := hh.resolve_left (fun h => hne h.1))
   exact ⟨rfl, hk.own.lt.trans b1, by rw [HV.out]⟩
 ·have hc0 : c = 0 := by omega
  subst hc0
  have hg : 0 <= o.qty /\ o.qty <= 100 := by
   refine Classical.byContradiction fun g => ?_
   rw [if_neg g] at hc; omega
  rw [if_pos hg] at hc
  obtain ⟨p1, p2, p3, p4⟩ := perE_ok hc
  have HV : Hid (capS D o.period o.qty = .ok { D with caps := setC D.caps o.period.toNat o.qty }) := hide (by unfold capS; rw [if_neg (by omega), if_neg (by rw [hc]; simp)])
  have HC : Hid ((if true = true then perE D o.period else 1) = 0) := hide (by rw [if_pos rfl]; exact hc)
  have t1 : decide (0 <= o.qty) = true := by simpa using hg.1
  have t2 : decide (o.qty <= 100) = true := by simpa using hg.2
  have HG := hide hg
  clear hc p3 p4 hne
  go_wp2_with (go_at_call 79; (with_reducible refine (per_calls _ G A1 A2 A3 A4 n1 n2 n3 n4 c1 c2 c3 c4 D hk.row (Sq.of_own mCells_len hk.own.mks) (by have := HMY.out.ml; omega) o.period _ _ HC.out).mono ?_); rintro e w1 ⟨b1, hh⟩; obtain ⟨-, rfl⟩ := hh.resolve_right (fun h => h.1 rfl))
  obtain ⟨N, hN⟩ : ∃ N, N = max D.caps.length (o.period.toNat + 1) := ⟨_, rfl⟩
  have HN := hide hN
  have HPR := hide (show 0 <= o.period /\ o.period <= 39 from ⟨p1, p2⟩)
  have K1 : Hid (KIn w0 w1 G A1 A2 A3 A4 n1 n2 n3 n4 c1 c2 c3 c4 D) := hide (hk.later b1)
  have HR1 := hide (HR0.out.later b1)
  have HGL := hide HK.out.row.lt
  have hlim : N <= 40 := by have := HMY.out.head.cl; omega
  have HQ0 : Hid (∀ k, (Value.slice A2 n2 c2).ownBlock = some k -> k ≠ w.heap.size) := hide (fun k hk => by have := (World.ownsRow.lt HK.out.own.caps k hk).2; omega)
  clear hk hN x3 x4 p1 p2 t1 t2 b1
  go_loopw [] (fun wr => ∃ A2' n2' c2' j, Hid (KIn w0 wr G A1 A2' A3 A4 n1 n2' n3 n4 c1 c2' c3 c4 { D with caps := D.caps ++ List.replicate j 0 }) /\ D.caps.length + j <= N /\ Hid (Row wr w.heap.size 31 [.int .i64 o.kind, .int .i64 o.ord.id, .int .i64 o.ord.item, .int .i64 o.ord.due, .int .i64 o.ord.qty, .int .i64 o.id, .int .i64 o.period, .int .i64 o.qty, .slice Aq nq cq]) /\ Hid (∀ k, (Value.slice A2' n2' c2').ownBlock = some k -> k ≠ w.heap.size)) (fun wr => 41 - capLen wr G)
  case atStart => exact ⟨A2, n2, c2, 0, hide (by rw [List.replicate_zero, List.append_nil]; exact K1.out), by have := HN.out; omega, HR1, HQ0⟩
  case round =>
   obtain ⟨A2', n2', c2', j, HI, hj, HBX, HQ⟩ := hrel
   have HL2 : Hid (n2' = D.caps.length + j) := hide (by have := (own_len3 HI.out.own.caps).1; simpa using this)
   have HT1 : Hid (∀ w', Later wr w' -> w'.cell? ⟨G, 3, none⟩ = some (.slice A2' n2' c2') /\ w'.cell? ⟨w.heap.size, 6, none⟩ = some (.int .i64 o.period)) := hide fun w' hb => ⟨(HI.out.row.later hb).cell rfl, (HBX.out.later hb).cell rfl⟩
   have hmx : Tryz.prog.follows .mixedOrders = true := by kernel_rfl
   by_cases hlt : (n2' : Int) <= o.period
   ·have t5 : decide ((n2' : Int) <= o.period) = true := by simpa using hlt
    go_upto_region 2 with fail
    refine wp_region_N (fun w' => w'.cell? ⟨G, 3, none⟩ = some (.slice A2' n2' c2') /\ w'.cell? ⟨w.heap.size, 6, none⟩ = some (.int .i64 o.period)) [] hmx (HT1.out _ lt_) (fun hHeld => ?_)
    refine tkB 16 0 ?_
    refine tkB 17 1 ?_
    refine tkB 18 2 ?_
    refine tkB 19 3 ?_
    refine tkB 20 4 ?_
    refine tkB 21 5 ?_
    refine tkB 22 6 ?_
    refine tkB 23 7 ?_
    refine tkB 24 8 ?_
    refine wpAnyN_done (by kernel_rfl) ?_ _
    clear hHeld
    have hcell := (HI.out.row.drew).cell (i := 3) rfl
    have HD := hide (HI.out.later (show Later wr wr.drew from (Later.refl _).drew))
    have HBD := hide HBX.out.drew
    have HSRC : Hid (Src ((wr.alloc (Obj.cells #[Value.int .i64 0] 3)).drew) 1 (.slice (some ⟨wr.heap.size, 0, none⟩) 1 1) 1 [.int .i64 0]) := hide ⟨rfl, by simp; rfl, .inr ⟨_, _, rfl, fun j u hj => by rw [addr_add, Nat.zero_add]; exact (Row.new wr 3 [.int .i64 0]).drew.cell hj⟩⟩
    have hn40 : n2' <= 40 := by have := HL2.out; omega
    have HBS : Hid (w0.heap.size <= ((wr.alloc (Obj.cells #[Value.int .i64 0] 3)).drew).heap.size) := hide (by have := HI.out.own.lt.size; simp; omega)
    have HOWN : Hid (((wr.alloc (Obj.cells #[Value.int .i64 0] 3)).drew).ownsRow w0.heap.size 3 1 (.slice A2' n2' c2') n2' ((D.caps ++ List.replicate j 0).flatMap iCells)) := hide (by have h := HI.out.own.caps; have e := (own_len3 h).1; rw [<- e] at h; exact World.ownsRow.drew (World.ownsRow.alloc h _))
    go_wp2_with (at_builtin; (refine wpList_append_src rfl (.tmp 30) (.tmp 31) 23 rfl w0.heap.size 3 (.int .i64 0) 1 8 Tryz.underlying23 info_int rfl (by omega) (by omega) _ n2' _ rfl HOWN.out _ 1 [.int .i64 0] rfl HSRC.out (by omega) HBS.out ?_); intro v' w2 hown hg hblk; obtain ⟨A5, c5, rfl⟩ := own_form hown; have hblk2 : (Value.slice A5 (n2' + 1) c5).ownBlock = (Value.slice A2' n2' c2').ownBlock ∨ ∃ j0, wr.heap.size <= j0 /\ (Value.slice A5 (n2' + 1) c5).ownBlock = some j0 := hblk.imp (fun e => e) (fun e => ⟨_, (by show wr.heap.size <= (wr.alloc _).heap.size; simp), e⟩); have hg2 : wr.drew.grownBy w2 (Value.slice A2' n2' c2').ownBlock := grown_trans_alloc (w := wr.drew) hg; have hne : some G ≠ (Value.slice A2' n2' c2').ownBlock := (fun e => HD.out.bC G e.symm rfl); have rk := HD.out.row.grown hg2 hne; have k3 := rk.cell (i := 3) rfl; have kz3 := rk.frozen 3; clear rk hne)
    go_roundw
    case rel =>
     have hfr : ∀ k, (Value.slice A5 (n2' + 1) c5).ownBlock = some k -> (Value.slice A2' n2' c2').ownBlock = some k ∨ wr.drew.heap.size <= k := fun k hk => by
      rcases hblk2 with e | ⟨j0, e0, e⟩
      ·left; rw [<- e]; exact hk
      ·right; rw [e] at hk; injection hk with hk; subst hk; exact e0
     have hlen : (D.caps ++ List.replicate (j + 1) 0).length = n2' + 1 := by have := HL2.out; simp; omega
     refine ⟨A5, n2' + 1, c5, j + 1, hide ?_, by have := HL2.out; have := HN.out; omega, hide ?_, hide (fun k hk => ?_)⟩
     ·exact HD.out.stepC hg2 (D.caps ++ List.replicate (j + 1) 0) (by
       rw [hlen, List.replicate_succ', <- List.append_assoc, List.flatMap_append]; exact hown) hfr
     ·exact (HBD.out.grown hg2 (fun e => HQ.out _ e.symm rfl)).far (by have h1 := HI.out.row.lt; have h2 := HBX.out.lt; have h3 := HGL.out; show w.heap.size ≠ G; omega) _
     ·rcases hfr k hk with e | e
      ·exact HQ.out k e
      ·have h2 := HBX.out.lt; have e' : wr.heap.size <= k := e; omega
    case measure =>
     have h1 := capLen_eq hcell
     have h2 := capLen_eq (((HD.out.row.grown hg2 (fun e => HD.out.bC G e.symm rfl)).set_ 3 (.slice A5 (n2' + 1) c5)).cell (i := 3) rfl)
     have h3 : capLen wr G = n2' := h1
     rw [h2, h3]; omega
   ·have t5 : decide ((n2' : Int) <= o.period) = false := by simpa using hlt
    go_upto_region 2 with fail
    refine wp_region_N (fun w' => w'.cell? ⟨G, 3, none⟩ = some (.slice A2' n2' c2') /\ w'.cell? ⟨w.heap.size, 6, none⟩ = some (.int .i64 o.period)) [] hmx (HT1.out _ lt_) (fun hHeld => ?_)
    refine tkB 16 0 ?_
    refine tkB 17 1 ?_
    refine tkB 18 2 ?_
    refine tkB 19 3 ?_
    refine tkB 20 4 ?_
    refine tkB 21 5 ?_
    refine tkB 22 6 ?_
    refine tkB 23 7 ?_
    refine tkB 24 8 ?_
    refine wpAnyN_done (by kernel_rfl) ?_ _
    clear hHeld
    have hpn : o.period.toNat < n2' := by have := HPR.out; omega
    obtain ⟨g2, rfl⟩ := own_some HI.out.own.caps (by have := HL2.out; simp; omega)
    have HD := hide (HI.out.later (show Later wr wr.drew from (Later.refl _).drew))
    have HT4 : Hid (∀ w', Later wr.drew w' -> w'.cell? ⟨G, 3, none⟩ = some (.slice (some ⟨g2, 0, none⟩) n2' c2') /\ w'.cell? ⟨w.heap.size, 6, none⟩ = some (.int .i64 o.period) /\ w'.cell? ⟨w.heap.size, 7, none⟩ = some (.int .i64 o.qty)) := hide fun w' hb => ⟨(HD.out.row.later hb).cell rfl, (HBX.out.drew.later hb).cell rfl, (HBX.out.drew.later hb).cell rfl⟩
    have hp0 : 0 <= o.period := HPR.out.1
    have hp1 : o.period < (n2' : Int) := by omega
    have hp2 : o.period.toNat < n2' := hpn
    have HCS : Hid (∀ w', Later wr.drew w' -> w'.cell? ⟨g2, o.period.toNat, none⟩ = some (.int .i64 ((D.caps ++ List.replicate j 0).getD o.period.toNat 0)) /\ w'.frozen? ⟨g2, o.period.toNat, none⟩ = false) := hide fun w' hb => by
     obtain ⟨-, hn, hb0, hnc, hcm, cs, hr, hl, hx⟩ := own_row (own_later HD.out.own.caps hb)
     refine ⟨hr.cell ?_, hr.frozen _⟩
     have hx2 : (cs.take (n2' * 1))[o.period.toNat]? = some (Value.int .i64 ((D.caps ++ List.replicate j 0).getD o.period.toNat 0)) := by
      rw [hx, iCells_map, List.getElem?_map, List.getD_eq_getElem?_getD, List.getElem?_eq_getElem (by omega)]; rfl
     rw [List.getElem?_take] at hx2
     split at hx2
     ·exact hx2
     ·cases hx2
    go_upto_region 4 with fail
    refine wp_region_N (fun w' => w'.cell? ⟨G, 3, none⟩ = some (.slice (some ⟨g2, 0, none⟩) n2' c2') /\ w'.cell? ⟨w.heap.size, 6, none⟩ = some (.int .i64 o.period) /\ w'.cell? ⟨w.heap.size, 7, none⟩ = some (.int .i64 o.qty)) [10] hmx (HT4.out _ lt_) (fun hHeld => ?_)
    refine tkB 36 0 ?_
    refine tkB 37 1 ?_
    refine tkB 38 2 ?_
    refine tkB 39 3 ?_
    refine tkB 40 4 ?_
    refine tkB 41 5 ?_
    refine tkB 42 6 ?_
    refine tkB 43 7 ?_
    refine tkB 44 8 ?_
    refine tkB 45 9 ?_
    refine wpAnyN_ready (rs := [10]) (by kernel_rfl) (by simp) ?_
    refine AllReadyN.free rfl (by rfl) (by kernel_rfl) (fun K hK => ?_) AllReadyN.nil
    have hcs := HCS.out _ (show Later wr.drew _ from lt_)
    obtain ⟨hcs1, hcs2⟩ := hcs
    go_simp
    refine hK.out _ _ ?_
    clear hK K
    try simp only [Act.put, s1_, s2_, s3_]
    refine wpAnyN_done (by kernel_rfl) ?_ _
    clear hHeld
    go_end0
    have hle : setC D.caps o.period.toNat o.qty = (D.caps ++ List.replicate j 0).set o.period.toNat o.qty := by
     unfold setC
     have h1 := HL2.out; have h2 := HN.out
     by_cases hh : o.period.toNat < D.caps.length
     ·rw [show o.period.toNat + 1 - D.caps.length = 0 by omega, show j = 0 by omega]
     ·rw [show o.period.toNat + 1 - D.caps.length = j by omega]
    have hkd := HD.out.later (show Later wr.drew wr.drew.drew from (Later.refl _).drew)
    refine hkd.storeC o.period.toNat hpn o.qty ?_ _ (by rw [HV.out, hle])
    have hm := caps_may HMY.out (l := (D.caps ++ List.replicate j 0).set o.period.toNat o.qty) (by have := HL2.out; rw [List.length_set, List.length_append, List.length_replicate]; omega) (fun c hc => by
     rcases List.mem_or_eq_of_mem_set hc with h | h
     ·rcases List.mem_append.1 h with h | h
      ·exact HMY.out.head.caps c h
      ·rw [List.eq_of_mem_replicate h]; decide
     ·rw [h]; exact HG.out)
    exact hm
end Go.Proofs.YtncbebfhakcgdaaGreat
namespace Go.Proofs.YtncbebfhakcgdaaGreat
open Go.RowKit Go.Shelf
attribute [local go_sem ↓] Go.wp_at_zero Go.wp_at_succ
set_option maxHeartbeats 4000000 in
theorem ord1_calls (w : World) (x : POrd) (t z : Int) (hz : cmpI x.id t = z) :
 Calls Tryz.prog 74 #[.agg #[.int .i64 x.id, .int .i64 x.item, .int .i64 x.due, .int .i64 x.qty], .int .i64 t] w (RetV w (.int .i64 z)) := by
 have HZ := hide hz
 clear hz
 obtain ⟨W0, hW0⟩ : ∃ W0, W0 = (w.alloc (Obj.cells #[Value.int .i64 x.id, Value.int .i64 x.item, Value.int .i64 x.due, Value.int .i64 x.qty] 29)) := ⟨_, rfl⟩
 have B0 := hide (show Later w W0 by rw [hW0]; exact (Later.refl _).alloc _)
 have HR0 := hide (show Row W0 w.heap.size 29 [.int .i64 x.id, .int .i64 x.item, .int .i64 x.due, .int .i64 x.qty] by rw [hW0]; exact Row.new _ _ _)
 have HW0 := hide hW0
 clear hW0
 go_enter Tryz.func74, Tryz.ntmps74
 go_upto_region 1 with fail
 rw [<- HW0.out]
 have d0 := HR0.out.cell (i := 0) rfl
 go_wp2_with (go_at_call 65; (with_reducible refine (icompare_calls _ x.id t _ HZ.out).mono ?_); rintro e w1 ⟨rfl, rfl⟩)
 go_ret
 exact ⟨rfl, B0.out⟩
theorem pw_le {l : List POrd} (hp : l.Pairwise fun a b => a.id < b.id) {k m : Nat} (h : k <= m) {y x : POrd} (hy : l[k]? = some y) (hx : l[m]? = some x) : y.id <= x.id := by
 obtain ⟨k1, e1⟩ := List.getElem?_eq_some_iff.1 hy
 obtain ⟨k2, e2⟩ := List.getElem?_eq_some_iff.1 hx
 by_cases e : k = m
 ·subst e; rw [<- e1, <- e2]; exact Int.le_refl _
 ·have := (List.pairwise_iff_getElem.1 hp) k m k1 k2 (by omega)
  rw [e1, e2] at this; omega
def BsP (w : World) (l : List POrd) (t : Int) (e : Ending) (w' : World) : Prop := Later w w' /\ ∃ i : Nat, e = .returned (.tuple #[.int .i64 i, .bool (l.any fun x => decide (x.id = t))]) /\ i <= l.length /\ (∀ (j : Nat) x, j < i -> l[j]? = some x -> x.id < t) /\ (∀ (j : Nat) x, i <= j -> l[j]? = some x -> t <= x.id)
set_option maxHeartbeats 1000000 in
theorem bs_calls (w : World) (A : Option Addr) (n c : Nat) (l : List POrd) (h : Sq 4 oCells w (.slice A n c) l) (hl : l.length <= 1000) (hp : l.Pairwise fun a b => a.id < b.id) (t : Int) :
 Calls Tryz.prog 73 #[.slice A n c, .int .i64 t, .func (.func 74) #[] #[]] w (BsP w l t) := by
 have hn : n = l.length := by
  obtain ⟨A', n', c', e, e2, -⟩ := h.form
  injection e with _ e _; omega
 have H := hide h; have HP := hide hp; have HN := hide hn
 have hn1 : n <= 1000 := by omega
 clear h hp hn
 go_enter Tryz.func73, Tryz.ntmps73
 go_wp2_with fail
 go_loopw [9, 10] (fun i jv wr => ∃ a b : Nat, i = .int .i64 (a : Int) /\ jv = .int .i64 (b : Int) /\ a <= b /\ b <= n /\ Hid (Later w wr) /\ Hid (∀ (k : Nat) x, k < a -> l[k]? = some x -> x.id < t) /\ Hid (∀ (k : Nat) x, b <= k -> l[k]? = some x -> t <= x.id)) (fun i jv _ => (intOf jv).toNat - (intOf i).toNat)
 case atStart => exact ⟨0, n, rfl, rfl, Nat.zero_le _, Nat.le_refl _, hide (Later.refl _), hide (fun k x hk => by omega), hide (fun k x hk hx => by have := (List.getElem?_eq_some_iff.1 hx).1; have := HN.out; omega)⟩
 case round =>
  obtain ⟨a, b, rfl, rfl, hab, hbn, HL, HA, HB⟩ := hrel
  by_cases hlt : a < b
  ·have t1 : decide ((a : Int) < (b : Int)) = true := by simpa using hlt
   go_upto_region 5 with fail
   obtain ⟨m, hm⟩ : ∃ m : Nat, m = (a + b) / 2 := ⟨_, rfl⟩
   have hme : ((a : Int) + (b : Int)) / 2 = (m : Int) := by omega
   rw [hme]
   have hma : a <= m := by omega
   have hmb : m < b := by omega
   clear hme hm
   obtain ⟨x, hx⟩ : ∃ x, l[m]? = some x := ⟨l[m]'(by have := HN.out; omega), List.getElem?_eq_getElem _⟩
   obtain ⟨b3, off3, rfl, x0, x1, x2, x3⟩ := (H.out.later HL.out).at4 hx
   have hi0 : (0 : Int) <= (m : Int) := by omega
   have hi1 : (m : Int) < (n : Int) := by omega
   obtain ⟨z, hz⟩ : ∃ z, cmpI x.id t = z := ⟨_, rfl⟩
   obtain ⟨u, hu⟩ : ∃ u, decide (z < 0) = u := ⟨_, rfl⟩
   have HZ := hide hz; have HU := hide hu; have HX := hide hx
   clear hz hx
   clear hu
   cases u with
   | true =>
     have hxt : Hid (x.id < t) := hide (by have h1 := HU.out; rw [<- HZ.out] at h1; unfold cmpI at h1; split at h1; assumption; split at h1 <;> simp at h1)
     have HUT : decide (z < 0) = true := HU.out
     go_wp2_with (go_at_call 74; (with_reducible refine (ord1_calls _ x t _ HZ.out).mono ?_); rintro e w1 ⟨rfl, b1⟩)
     exact ⟨⟨m + 1, b, by go_num, rfl, by omega, hbn, hide (HL.out.trans b1), hide (fun k y hk hy => by have := pw_le HP.out (show k <= m by omega) hy HX.out; have := hxt.out; omega), HB⟩, by simp [intOf]; omega⟩
   | false =>
     have hxt : Hid (t <= x.id) := hide (by have h1 := HU.out; rw [<- HZ.out] at h1; unfold cmpI at h1; split at h1; simp at h1; omega)
     have HUT : decide (z < 0) = false := HU.out
     go_wp2_with (go_at_call 74; (with_reducible refine (ord1_calls _ x t _ HZ.out).mono ?_); rintro e w1 ⟨rfl, b1⟩)
     exact ⟨⟨a, m, rfl, rfl, hma, by omega, hide (HL.out.trans b1), HA, hide (fun k y hk hy => by have := pw_le HP.out hk HX.out hy; have := hxt.out; omega)⟩, by simp [intOf]; omega⟩
  ·have hab2 : a = b := by omega
   subst hab2
   have t1 : decide ((a : Int) < (a : Int)) = false := by simp
   by_cases han : a < n
   ·obtain ⟨x, hx⟩ : ∃ x, l[a]? = some x := ⟨l[a]'(by have := HN.out; omega), List.getElem?_eq_getElem _⟩
    obtain ⟨b3, off3, rfl, x0, x1, x2, x3⟩ := (H.out.later HL.out).at4 hx
    have hi0 : (0 : Int) <= (a : Int) := by omega
    have hi1 : (a : Int) < (n : Int) := by omega
    have t2 : decide ((a : Int) < (n : Int)) = true := by simpa using han
    obtain ⟨z, hz⟩ : ∃ z, cmpI x.id t = z := ⟨_, rfl⟩
    have HZ := hide hz
    have HF : Hid ((z == 0) = l.any fun x => decide (x.id = t)) := hide (by
     rw [<- hz]
     by_cases e : x.id = t
     ·rw [List.any_eq_true.2 ⟨x, List.mem_of_getElem? hx, by simpa using e⟩]
      unfold cmpI; rw [if_neg (by omega), if_neg (by omega)]; rfl
     ·rw [List.any_eq_false.2 (fun y hy => by
       intro e2
       have e3 : y.id = t := by simpa using e2
       obtain ⟨k, hk, hk2⟩ := List.getElem_of_mem hy
       have hk3 : l[k]? = some y := by rw [List.getElem?_eq_getElem hk, hk2]
       have h1 := HB.out a x (Nat.le_refl _) hx
       by_cases hka : k < a
       ·have := HA.out k y hka hk3; omega
       ·have := pw_le HP.out (show a <= k by omega) hx hk3; omega)]
      unfold cmpI
      split
      ·rfl
      ·split
       ·rfl
       ·omega)
    clear hz hx
    go_wp2_with (go_at_call 74; (with_reducible refine (ord1_calls _ x t _ HZ.out).mono ?_); rintro e w1 ⟨rfl, b1⟩)
    go_ret2
    exact ⟨HL.out.trans b1, a, by rw [<- HF.out]; rfl, by have := HN.out; omega, HA.out, HB.out⟩
   ·have t2 : decide ((a : Int) < (n : Int)) = false := by simpa using han
    have HF : Hid (false = l.any fun x => decide (x.id = t)) := hide (by
     symm
     refine List.any_eq_false.2 fun y hy e2 => ?_
     have e3 : y.id = t := by simpa using e2
     obtain ⟨k, hk, hk2⟩ := List.getElem_of_mem hy
     have := HA.out k y (by have := HN.out; omega) (by rw [List.getElem?_eq_getElem hk, hk2])
     omega)
    go_wp2_with (go_at_call 74; (with_reducible refine (ord1_calls _ x t _ HZ.out).mono ?_); rintro e w1 ⟨rfl, b1⟩)
    go_ret2
    exact ⟨HL.out, a, by rw [<- HF.out]; rfl, by have := HN.out; omega, HA.out, HB.out⟩
end Go.Proofs.YtncbebfhakcgdaaGreat
namespace Go.Proofs.YtncbebfhakcgdaaGreat
open Go.RowKit Go.Shelf
attribute [local go_sem ↓] Go.wp_at_zero Go.wp_at_succ
def InsP (w : World) (lo : Nat) (A : Option Addr) (n c : Nat) (l : List POrd) (e : Ending) (w' : World) : Prop := ∃ A' c', e = .returned (.slice A' (n + 1) c') /\ w'.ownsRow lo 29 4 (.slice A' (n + 1) c') (n + 1) (l.flatMap oCells) /\ w.grownBy w' (Value.slice A n c).ownBlock /\ ∀ k, (Value.slice A' (n + 1) c').ownBlock = some k -> (Value.slice A n c).ownBlock = some k ∨ w.heap.size <= k
theorem src_one {w : World} {h : Nat} {o : POrd} (hh : Row w h 29 (oCells o)) : Src w 4 (.slice (some ⟨h, 0, none⟩) 1 1) 1 (oCells o) := ⟨rfl, oCells_one o, .inr ⟨_, _, rfl, fun j u hj => by rw [addr_add, Nat.zero_add]; exact hh.cell hj⟩⟩
set_option maxHeartbeats 1000000 in
theorem insEnd_calls (w : World) (lo : Nat) (A : Option Addr) (n c : Nat) (l : List POrd) (hO : w.ownsRow lo 29 4 (.slice A n c) n (l.flatMap oCells)) (hn1 : n <= 1000) (h : Nat) (o : POrd) (hh : Row w h 29 (oCells o)) (hlo : lo <= w.heap.size) :
 Calls Tryz.prog 75 #[.slice A n c, .int .i64 n, .slice (some ⟨h, 0, none⟩) 1 1] w (InsP w lo A n c (l ++ [o])) := by
 have hnc := (own_len3 hO).2.1
 have hcm : c <= 9223372036854775807 := (own_len3 hO).2.2
 have HO := hide hO; have HH := hide (src_one hh)
 clear hO hh
 obtain ⟨av, hav⟩ : ∃ av, (if c = n then A else Option.map (fun x : Addr => x.add (n * 4)) A) = av := ⟨_, rfl⟩
 go_enter Tryz.func75, Tryz.ntmps75
 go_wp2_with (at_builtin; refine wpList_append_src rfl (.tmp 23) (.tmp 24) 24 rfl lo 29 (.agg #[.int .i64 0, .int .i64 0, .int .i64 0, .int .i64 0]) 4 32 Tryz.underlying24 info_o4 rfl (by omega) (by omega) _ n _ rfl HO.out _ 1 _ rfl HH.out (by omega) hlo ?_; intro v' w2 hown hg hblk; obtain ⟨A5, c5, rfl⟩ := own_form hown; have hg2 : w.grownBy w2 (Value.slice A n c).ownBlock := hg; have hblk2 : (Value.slice A5 (n + 1) c5).ownBlock = (Value.slice A n c).ownBlock ∨ (Value.slice A5 (n + 1) c5).ownBlock = some w.heap.size := hblk; clear hg hblk)
 go_ret
 refine ⟨A5, c5, rfl, by rw [List.flatMap_append, List.flatMap_cons, List.flatMap_nil, List.append_nil]; exact hown, hg2, fun k hk => ?_⟩
 rcases hblk2 with e | e
 ·left; rw [<- hk, e]
 ·right; rw [e] at hk; injection hk with hk; omega
set_option maxHeartbeats 1000000 in
theorem insRoom_calls (w : World) (lo g c n : Nat) (l : List POrd) (i : Nat) (hi : i < n) (hO : w.ownsRow lo 29 4 (.slice (some ⟨g, 0, none⟩) n c) n (l.flatMap oCells)) (hn1 : n <= 1000) (hroom : n + 1 <= c) (h : Nat) (o : POrd) (hh : Row w h 29 (oCells o)) (hne : h ≠ g) :
 Calls Tryz.prog 75 #[.slice (some ⟨g, 0, none⟩) n c, .int .i64 i, .slice (some ⟨h, 0, none⟩) 1 1] w (InsP w lo (some ⟨g, 0, none⟩) n c (l.take i ++ o :: l.drop i)) := by
 obtain ⟨-, -, hb, hnc, hcm, cs, hr, hl, hx⟩ := own_row hO
 have hlen : l.length = n := by have := hO.1; rw [flat_len oCells_len] at this; omega
 have HR := hide hr; have HX := hide hx; have HH := hide hh
 have hc2 : c <= 9223372036854775807 := hcm
 clear hO hr hx hh
 have hz2 : ((i : Int) == (n : Int)) = false := by rw [beq_eq_false_iff_ne]; omega
 have hci : ¬ c = i := by omega
 have hic : (i : Int) <= (n : Int) := by omega
 have hrm : decide ((c : Int) < (n : Int) + 1) = false := by simp; omega
 have hci1 : ¬ c = i + 1 := by omega
 have hw1 : IntKind.i64.wrap ((i : Int) + 1) = (i : Int) + 1 := IntWalk.i64_in _ (by omega)
 have hi10 : 0 <= (i : Int) + 1 := by omega
 have hi11 : (i : Int) + 1 <= (n : Int) + 1 := by omega
 have hi12 : (i : Int) <= (n : Int) + 1 := by omega
 have hdl : ((l.drop i).flatMap oCells).length = (n - i) * 4 := by rw [flat_len oCells_len, List.length_drop, hlen]
 obtain ⟨i0, hi0, hz0, hs0, hb0⟩ := info_parts info_o4
 have hsz : ∀ w, (sizeOf 29).run Tryz.prog w = .ok 4 w := fun w => by simp [sizeOf, typeInfo, hi0, hs0, go_sem]
 have hsa : w.shape? h = some (29, 4) := by
  have := HH.out; unfold Row at this; unfold World.shape?; rw [this]; rfl
 have hsb : w.shape? g = some (29, cs.length) := by
  have := HR.out; unfold Row at this; unfold World.shape?; rw [this]; simp
 have hov : ∀ lb cb, (callFunc 107 #[.slice (some ⟨h, 0, none⟩) 1 1, .slice (some ⟨g, (i + 1) * 4, none⟩) lb cb]).run Tryz.prog w = .ok (.value (.bool false)) w := fun lb cb => by
  rw [run_callFunc_extern Tryz.func107 (by kernel_rfl) (by kernel_rfl) (by kernel_rfl) (e := Extern.SlicesOverlaps.overlaps #[24, 24] #[4]) (by kernel_rfl),
   Lib.run_overlaps_apart w 24 4 29 Tryz.underlying24 4 hsz ⟨h, 0, none⟩ ⟨g, (i + 1) * 4, none⟩ 1 1 lb cb hne 29 29 4 cs.length hsa hsb (by omega) (HH.out.frozen 0) (HH.out.frozen 4)]
  rfl
 have HCP1 : Hid (∀ ty dc sc, (Builtin.copy_ #[24, 24] ty #[.slice (some ⟨g, (i + 1) * 4, none⟩) (n + 1 - (i + 1)) dc, .slice (some ⟨g, i * 4, none⟩) (n + 1 - i) sc]).run Tryz.prog w.drew = .ok (goInt ((n - i : Nat) : Int)) (w.drew.setRow g (spl cs ((i + 1) * 4) ((l.drop i).flatMap oCells)).toArray)) := hide (fun ty dc sc => run_copy_rec (o := (i + 1) * 4) (dLen := n + 1 - (i + 1)) 24 24 ty 29 i0 Tryz.underlying24 hi0 HR.out.drew ⟨g, i * 4, none⟩ (n + 1 - i) sc (n - i) ((l.drop i).flatMap oCells) (by simp only [Nat.min_def]; split <;> omega) (by rw [hs0, hdl]) (fun j u hj => by
  rw [addr_add]
  refine HR.out.drew.cell ?_
  rw [<- flat_drop oCells_len, <- HX.out, List.getElem?_drop, List.getElem?_take] at hj
  split at hj
  ·exact hj
  ·cases hj) (fun u hu => by obtain ⟨x, hx, hu⟩ := List.mem_flatMap.1 hu; exact oCells_one x u hu) (by rw [hdl]; omega))
 have hmx : Tryz.prog.follows .mixedOrders = true := by kernel_rfl
 clear hsz hsa hsb hz0 hb0
 go_enter Tryz.func75, Tryz.ntmps75
 go_upto_region 15 with (simp only [hov])
 refine wp_region_N (fun _ => True) [] hmx trivial (fun hHeld => ?_)
 refine tkB 69 0 ?_
 refine tkB 70 1 ?_
 refine tkB 71 2 ?_
 refine tkB 72 3 ?_
 refine tkB 73 4 ?_
 refine tkB 74 5 ?_
 refine tkB 75 6 ?_
 refine tkB 76 7 ?_
 refine wpAnyN_ready (rs := [8]) (by kernel_rfl) (by simp) ?_
 refine AllReadyN.held rfl (by rfl) (fun K hK => ?_) AllReadyN.nil
 refine wp_copy_at (.tmp 73) (.tmp 76) 24 24 rfl (.slice (some ⟨g, (i + 1) * 4, none⟩) (n + 1 - (i + 1)) (c - (i + 1))) (.slice (some ⟨g, i * 4, none⟩) (n + 1 - i) (c - i)) (by first | rfl | simp [Act.eval]) (by first | rfl | simp [Act.eval]) (HCP1.out _ _ _) ?_
 obtain ⟨W1, hW1⟩ : ∃ W1, W1 = (w.drew.setRow g (spl cs ((i + 1) * 4) ((l.drop i).flatMap oCells)).toArray) := ⟨_, rfl⟩
 have HR1 : Hid (Row W1 g 29 (spl cs ((i + 1) * 4) ((l.drop i).flatMap oCells))) := hide (by rw [hW1]; exact row_setRow HR.out.drew)
 have HO1 : Hid (Only g w.drew W1) := hide (by rw [hW1]; exact only_setRow _ _ _)
 rw [<- hW1]
 clear hW1
 refine hK.out _ _ ?_ (fun hHeld => ?_)
 ·trivial
 clear hK K
 try simp only [Act.put, s1_, s2_, s3_]
 refine wpAnyN_done (by kernel_rfl) ?_ _
 clear hHeld
 have HH1 := hide (HH.out.drew.only HO1.out hne)
 have HCP2 : Hid (∀ ty dc, (Builtin.copy_ #[24, 24] ty #[.slice (some ⟨g, i * 4, none⟩) (n + 1 - i) dc, .slice (some ⟨h, 0, none⟩) 1 1]).run Tryz.prog W1 = .ok (goInt 1) (W1.setRow g (spl (spl cs ((i + 1) * 4) ((l.drop i).flatMap oCells)) (i * 4) (oCells o)).toArray)) := hide (fun ty dc => run_copy_rec (o := i * 4) (dLen := n + 1 - i) 24 24 ty 29 i0 Tryz.underlying24 hi0 HR1.out ⟨h, 0, none⟩ 1 1 1 (oCells o) (by simp only [Nat.min_def]; split <;> omega) (by rw [hs0]; rfl) (fun j u hj => by rw [addr_add, Nat.zero_add]; exact HH1.out.cell hj) (oCells_one o) (by rw [spl_len (by rw [hdl]; omega), hl]; show i * 4 + 4 <= _; omega))
 have hcp2 := HCP2.out
 go_wp2_with fail
 go_ret
 have e : cs.take (n * 4) = l.flatMap oCells := HX.out
 have e1 : cs.take (i * 4) = (l.take i).flatMap oCells := by rw [<- flat_take oCells_len, <- e, List.take_take, Nat.min_eq_left (by omega)]
 have e2 := spl_two (cs := cs) (X := oCells o) (S := (l.drop i).flatMap oCells) (a := i * 4) (by show i * 4 + 4 <= _; omega)
 rw [oCells_len, show i * 4 + 4 = (i + 1) * 4 by omega] at e2
 refine ⟨some ⟨g, 0, none⟩, c, rfl, own_mk (row_setRow HR1.out) hb hroom hcm ?_ ?_, ?_, fun k hk => .inl hk⟩
 ·rw [spl_len (by rw [spl_len (by rw [hdl]; omega), hl]; show i * 4 + 4 <= _; omega), spl_len (by rw [hdl]; omega), hl]
 ·rw [e2, List.flatMap_append, List.flatMap_cons, e1, <- List.append_assoc, List.take_append_of_le_length (by simp only [List.length_append, hdl, flat_len oCells_len, oCells_len, List.length_take]; omega), List.take_of_length_le (by simp only [List.length_append, hdl, flat_len oCells_len, oCells_len, List.length_take]; omega), List.append_assoc]
 ·exact grown_only (Later.refl w).drew (HO1.out.trans (only_setRow _ _ _))
set_option maxHeartbeats 2000000 in
theorem insGrow_calls (w : World) (lo g c n : Nat) (l : List POrd) (i : Nat) (hi : i < n) (hO : w.ownsRow lo 29 4 (.slice (some ⟨g, 0, none⟩) n c) n (l.flatMap oCells)) (hn1 : n <= 1000) (hroom : c < n + 1) (h : Nat) (o : POrd) (hh : Row w h 29 (oCells o)) (hlo : lo <= w.heap.size) :
 Calls Tryz.prog 75 #[.slice (some ⟨g, 0, none⟩) n c, .int .i64 i, .slice (some ⟨h, 0, none⟩) 1 1] w (InsP w lo (some ⟨g, 0, none⟩) n c (l.take i ++ o :: l.drop i)) := by
 obtain ⟨-, -, hb, hnc, hcm, cs, hr, hl, hx⟩ := own_row hO
 have hlen : l.length = n := by have := hO.1; rw [flat_len oCells_len] at this; omega
 have HR := hide hr; have HX := hide hx; have HH := hide hh
 have hgw := hr.lt; have hhw := hh.lt
 have hc2 : c <= 9223372036854775807 := hcm
 clear hO hr hx hh
 have hz2 : ((i : Int) == (n : Int)) = false := by rw [beq_eq_false_iff_ne]; omega
 have hci : ¬ c = i := by omega
 have hic : (i : Int) <= (n : Int) := by omega
 have hrm : decide ((c : Int) < (n : Int) + 1) = true := by simp; omega
 have hw1 : IntKind.i64.wrap ((i : Int) + 1) = (i : Int) + 1 := IntWalk.i64_in _ (by omega)
 have hw2 : IntKind.i64.wrap ((n : Int) + 1) = (n : Int) + 1 := IntWalk.i64_in _ (by omega)
 have hw3 : IntKind.i64.wrap ((n : Int) + 1 - (i : Int)) = (n : Int) + 1 - (i : Int) := IntWalk.i64_in _ (by omega)
 have hi10 : 0 <= (i : Int) + 1 := by omega
 have hi11 : (i : Int) + 1 <= (n : Int) + 1 := by omega
 have hi12 : (i : Int) <= (n : Int) + 1 := by omega
 have hic3 : i <= c := by omega
 have hdl : ((l.drop i).flatMap oCells).length = (n - i) * 4 := by rw [flat_len oCells_len, List.length_drop, hlen]
 obtain ⟨i0, hi0, hz0, hs0, hb0⟩ := info_parts info_o4
 have hold : (Builtin.firstCells i0.size i (.slice (some ⟨g, 0, none⟩) i c)).run Tryz.prog w.drew = .ok (cs.take (i * 4)).toArray w.drew := by
  rw [hs0]
  exact run_firstCells_some (P := Tryz.prog) (w := w.drew) 4 i ⟨g, 0, none⟩ i c (cs.take (i * 4)) (by rw [List.length_take, Nat.min_eq_left (by omega)]) (fun j v hj => by
   rw [addr_add, Nat.zero_add, List.getElem?_take] at *
   split at hj
   ·exact HR.out.drew.cell hj
   ·cases hj)
 have hkk : (n : Int) + 1 - (i : Int) = ((n + 1 - i : Nat) : Int) := by omega
 obtain ⟨G', hG⟩ : ∃ G', G' = grownCap w (n + 1) c 29 := ⟨_, rfl⟩
 obtain ⟨ROW, hROW⟩ : ∃ ROW : List Value, ROW = cs.take (i * 4) ++ (Builtin.zeroCells (.agg #[.int .i64 0, .int .i64 0, .int .i64 0, .int .i64 0] : Value).cells (n + 1 - i)).toList ++ (Builtin.zeroCells (.agg #[.int .i64 0, .int .i64 0, .int .i64 0, .int .i64 0] : Value).cells (G' - (n + 1))).toList := ⟨_, rfl⟩
 have hrz : ∀ ty, (Builtin.append_ #[24, 3] ty #[.slice (some ⟨g, 0, none⟩) i c, .int .i64 ((n : Int) + 1 - (i : Int))]).run Tryz.prog w = .ok (.slice (some ⟨w.heap.size, 0, none⟩) (n + 1) G') (w.drew.alloc (.cells ROW.toArray 29)) := fun ty => by
  have h := Lib.run_append_grow_zeros (P := Tryz.prog) w 24 3 ty 29 i0 _ .i64 .i64 Tryz.underlying24 Tryz.underlying3 hi0 hz0 (some ⟨g, 0, none⟩) i c (cs.take (i * 4)) hold (n + 1 - i) (by omega) (by rw [hs0]; omega) (by omega) (by omega) (by rw [hb0]; omega) (by rw [hb0]; exact growslice_fits (by omega) (by omega))
  rw [show i + (n + 1 - i) = n + 1 by omega, <- hG] at h
  rw [hkk]
  have e : (cs.take (i * 4)).toArray ++ Builtin.zeroCells (.agg #[.int .i64 0, .int .i64 0, .int .i64 0, .int .i64 0] : Value).cells (n + 1 - i) ++ Builtin.zeroCells (.agg #[.int .i64 0, .int .i64 0, .int .i64 0, .int .i64 0] : Value).cells (G' - (n + 1)) = ROW.toArray := by rw [hROW]; simp
  rw [e] at h
  exact h
 have HG1 : Hid (n + 1 <= G') := hide (by rw [hG]; exact grownCap_ge _ _ _ _)
 have HGM : Hid (G' <= maxLen) := hide (by rw [hG]; exact grownCap_le_maxLen _ _ _ _ (by unfold maxLen; omega))
 have HRL : Hid (ROW.length = G' * 4) := hide (by have := HG1.out; rw [hROW]; simp [Builtin.zeroCells, Value.cells, hl]; omega)
 have HROW := hide hROW
 have hG1 : n + 1 <= G' := HG1.out
 have hGi : ¬ G' = i := by omega
 have hGi1 : ¬ G' = i + 1 := by omega
 have hG2 : G' <= 9223372036854775807 := HGM.out
 obtain ⟨W1, hW1⟩ : ∃ W1, W1 = w.drew.alloc (.cells ROW.toArray 29) := ⟨_, rfl⟩
 rw [<- hW1] at hrz
 have HL1 : Hid (Later w W1) := hide (by rw [hW1]; exact (Later.refl w).drew.alloc _)
 have HR1 : Hid (Row W1 w.heap.size 29 ROW) := hide (by rw [hW1]; exact Row.new w.drew _ _)
 have HH1 := hide (HH.out.later HL1.out)
 obtain ⟨cs1, hcs1⟩ : ∃ cs1, cs1 = spl ROW (i * 4) (oCells o) := ⟨_, rfl⟩
 have HC1 := hide hcs1
 obtain ⟨W2, hW2⟩ : ∃ W2, W2 = (W1.setRow w.heap.size cs1.toArray) := ⟨_, rfl⟩
 have hcp1 : ∀ ty dc, (Builtin.copy_ #[24, 24] ty #[.slice (some ⟨w.heap.size, i * 4, none⟩) (n + 1 - i) dc, .slice (some ⟨h, 0, none⟩) 1 1]).run Tryz.prog W1 = .ok (goInt 1) W2 := fun ty dc => by
  rw [hW2, hcs1]
  exact run_copy_rec (o := i * 4) (dLen := n + 1 - i) 24 24 ty 29 i0 Tryz.underlying24 hi0 HR1.out ⟨h, 0, none⟩ 1 1 1 (oCells o) (by simp only [Nat.min_def]; split <;> omega) (by rw [hs0]; rfl) (fun j u hj => by rw [addr_add, Nat.zero_add]; exact HH1.out.cell hj) (oCells_one o) (by rw [HRL.out]; show i * 4 + 4 <= _; omega)
 have HR2 : Hid (Row W2 w.heap.size 29 cs1) := hide (by rw [hW2]; exact row_setRow HR1.out)
 have HL2 : Hid (Later w W2) := hide (by rw [hW2]; exact HL1.out.only (only_setRow _ _ _) (Nat.le_refl _))
 have HRO := hide (HR.out.later HL2.out)
 have HCP2 : Hid (∀ ty dc sc, (Builtin.copy_ #[24, 24] ty #[.slice (some ⟨w.heap.size, (i + 1) * 4, none⟩) (n + 1 - (i + 1)) dc, .slice (some ⟨g, i * 4, none⟩) (n - i) sc]).run Tryz.prog W2.drew = .ok (goInt ((n - i : Nat) : Int)) (W2.drew.setRow w.heap.size (spl cs1 ((i + 1) * 4) ((l.drop i).flatMap oCells)).toArray)) := hide (fun ty dc sc => run_copy_rec (o := (i + 1) * 4) (dLen := n + 1 - (i + 1)) 24 24 ty 29 i0 Tryz.underlying24 hi0 HR2.out.drew ⟨g, i * 4, none⟩ (n - i) sc (n - i) ((l.drop i).flatMap oCells) (by simp only [Nat.min_def]; split <;> omega) (by rw [hs0, hdl]) (fun j u hj => by
  rw [addr_add]
  refine HRO.out.drew.cell ?_
  rw [<- flat_drop oCells_len, <- HX.out, List.getElem?_drop, List.getElem?_take] at hj
  split at hj
  ·exact hj
  ·cases hj) (fun u hu => by obtain ⟨x, hx, hu⟩ := List.mem_flatMap.1 hu; exact oCells_one x u hu) (by rw [hdl, HC1.out, spl_len (by rw [HRL.out]; show i * 4 + 4 <= _; omega), HRL.out]; omega))
 have hmx : Tryz.prog.follows .mixedOrders = true := by kernel_rfl
 clear hW1 hW2 hcs1 hROW hG hold hz0 hb0 hkk
 go_enter Tryz.func75, Tryz.ntmps75
 go_upto_region 11 with (at_builtin; refine Lib.wpList_append_run _ rfl (.tmp 34) (.tmp 39) 24 3 rfl _ _ rfl rfl _ _ (hrz _) ?_)
 refine wp_region_N (fun _ => True) [] hmx trivial (fun hHeld => ?_)
 refine tkB 46 0 ?_
 refine tkB 47 1 ?_
 refine tkB 48 2 ?_
 refine tkB 49 3 ?_
 refine tkB 50 4 ?_
 refine tkB 51 5 ?_
 refine tkB 52 6 ?_
 refine tkB 53 7 ?_
 refine wpAnyN_ready (rs := [8]) (by kernel_rfl) (by simp) ?_
 refine AllReadyN.held rfl (by rfl) (fun K hK => ?_) AllReadyN.nil
 refine wp_copy_at (.tmp 50) (.tmp 53) 24 24 rfl (.slice (some ⟨w.heap.size, (i + 1) * 4, none⟩) (n + 1 - (i + 1)) (G' - (i + 1))) (.slice (some ⟨g, i * 4, none⟩) (n - i) (c - i)) (by first | rfl | simp [Act.eval]) (by first | rfl | simp [Act.eval]) (HCP2.out _ _ _) ?_
 obtain ⟨W3, hW3⟩ : ∃ W3, W3 = (W2.drew.setRow w.heap.size (spl cs1 ((i + 1) * 4) ((l.drop i).flatMap oCells)).toArray) := ⟨_, rfl⟩
 have HR3 : Hid (Row W3 w.heap.size 29 (spl cs1 ((i + 1) * 4) ((l.drop i).flatMap oCells))) := hide (by rw [hW3]; exact row_setRow HR2.out.drew)
 have HO3 : Hid (Only w.heap.size W2.drew W3) := hide (by rw [hW3]; exact only_setRow _ _ _)
 rw [<- hW3]
 clear hW3
 refine hK.out _ _ ?_ (fun hHeld => ?_)
 ·trivial
 clear hK K
 try simp only [Act.put, s1_, s2_, s3_]
 refine wpAnyN_done (by kernel_rfl) ?_ _
 clear hHeld
 go_wp2_with fail
 go_ret
 have e : cs.take (n * 4) = l.flatMap oCells := HX.out
 have e1 : ROW.take (i * 4) = (l.take i).flatMap oCells := by
  rw [HROW.out, List.append_assoc, List.take_append_of_le_length (by rw [List.length_take]; omega), List.take_take, Nat.min_self, <- flat_take oCells_len, <- e, List.take_take, Nat.min_eq_left (by omega)]
 have hl1 : cs1.length = G' * 4 := by rw [HC1.out, spl_len (by show i * 4 + 4 <= _; have := HRL.out; omega), HRL.out]
 have e2 : cs1.take ((i + 1) * 4) = (l.take i).flatMap oCells ++ oCells o := by
  rw [HC1.out, show (i + 1) * 4 = i * 4 + (oCells o).length by rw [oCells_len]; omega, spl_take2 (by show i * 4 + 4 <= _; have := HRL.out; omega), e1]
 refine ⟨some ⟨w.heap.size, 0, none⟩, G', rfl, own_mk HR3.out (by omega) (by omega) HGM.out ?_ ?_, ?_, fun k hk => .inr ?_⟩
 ·rw [spl_len (by rw [hdl]; omega), hl1]
 ·rw [show (n + 1) * 4 = (i + 1) * 4 + ((l.drop i).flatMap oCells).length by rw [hdl]; omega, spl_take2 (by rw [hdl]; omega), e2, List.flatMap_append, List.flatMap_cons, List.append_assoc]
 ·have h1 : Later w W2.drew := HL2.out.drew
  exact ⟨HO3.out.os.trans h1.os, HO3.out.tape.trans h1.tape, HO3.out.output.trans h1.output, by rw [HO3.out.size]; exact h1.size, fun b hb _ => (HO3.out.block b (by omega)).trans (h1.block b hb)⟩
 ·have : w.heap.size = k := by injection hk
  omega
end Go.Proofs.YtncbebfhakcgdaaGreat
