/- Problems: extra (the program): the columns of rows and of ends, one by one. -/
import Derived.RangeFuncBox
import Derived.RangeFuncNested
import Derived.RangeFuncBound
import Derived.RangeFuncCalls
import Derived.RangeFuncLeaves
import Derived.Shelf.Abstract
import Derived.Shelf.RegionOpen
import Derived.OwnWalkIn
import Derived.TacticsInMore
import Derived.LoopNIn
import Derived.LoopIn
import Derived.Test.YtfokplidiboabaaGreatS19
import Derived.Test.YtfokplidiboabaaGreatS18
import Derived.Test.YtfokplidiboabaaGreatS8
import Derived.Test.YtfokplidiboabaaGreatS15
set_option linter.unusedVariables false
set_option linter.unusedSimpArgs false
set_option maxRecDepth 100000
namespace Go.Proofs.YtfokplidiboabaaGreat
open Go.RowKit Go.Shelf
attribute [local go_sem] Oper.semAt_some
structure Ex where
 row : Nat
 e : RCells
 q : Rat
def exEnc (x : Ex) : Array Value := #[.int .i64 (x.row : Int), x.e.val]
def exKey (x : Ex) : Nat × Rat := (x.row, x.q)
def exG (x : Ex) (W : World) : Prop := OwnR W 0 x.e.val x.q /\ (x.q = 1 ∨ x.q = -1) /\ x.row < 48
theorem extra_in (F : Fence) (n : Nat) (hf : F.fn 65) (hro : F.round = none) (A1 A2 A3 A4 A5 : Option Addr) (n1 n2 n3 n4 n5 c1 c2 c3 c4 c5 : Nat) (w : World) :
 CallsIn F n Tryz.prog 65 #[.agg #[.slice A1 n1 c1, .slice A2 n2 c2, .slice A3 n3 c3, .slice A4 n4 c4, .slice A5 n5 c5]] w fun e w' => e = .returned (.func (.func 131) #[] #[.pointer (some ⟨w.heap.size, 0, none⟩)]) /\ w' = w.alloc (.cells #[Value.slice A1 n1 c1, Value.slice A2 n2 c2, Value.slice A3 n3 c3, Value.slice A4 n4 c4, Value.slice A5 n5 c5] 26) := by
 refine callsIn_of_wp Tryz.func65 rfl hf ?_ hro
 simp only [Tryz.ntmps65, List.size_toArray, List.length_cons, List.length_nil, Nat.reduceAdd, Nat.reduceSub, Array.replicate_succ, Array.replicate_zero, List.push_toArray, List.append_toArray, List.nil_append, List.cons_append]
 gi_wp2
 go_ret
 exact ⟨by simp, rfl⟩
theorem OwnR.at0_ {w : World} {B : Nat} {v : Value} {q : Rat} (h : OwnR w B v q) : OwnR w 0 v q := h.weaken (Nat.zero_le _)
def KpF (B : Nat) (X Y : World) : Prop := Below B X Y /\ ∀ (b : Nat) (cs : Array Value) (z : Nat × Nat), (X.heap[b]? = some (Obj.cells cs 60 z) ∨ X.heap[b]? = some (Obj.cells cs 26 z)) -> Y.heap[b]? = X.heap[b]?
theorem KpF.refl (B : Nat) (X : World) : KpF B X X := ⟨Below.refl _ _, fun _ _ _ _ => rfl⟩
theorem KpF.trans {B : Nat} {X Y Z : World} (h : KpF B X Y) (k : KpF B Y Z) : KpF B X Z := ⟨h.1.trans k.1, fun b cs z e => by
 have h1 := h.2 b cs z e
 exact (k.2 b cs z (by rw [h1]; exact e)).trans h1⟩
theorem KpF.later {B : Nat} {X Y : World} (hB : B <= X.heap.size) (h : Later X Y) : KpF B X Y := ⟨h.mono hB, fun b cs z e => h.block b (by rcases e with e | e <;> exact (Array.getElem?_eq_some_iff.1 e).1)⟩
theorem KpF.putObj {B S : Nat} (hB : B <= S) (W : World) (l : Nat) (o o' : Obj) (hl : S <= l) (h : W.heap[l]? = some o) (h1 : o.isCells = false) (h2 : o.isWalk = false) : KpF B W (W.putObj l o') := by
 refine ⟨⟨rfl, rfl, rfl, by simp, fun b hb => World.putObj_heap_other (by omega)⟩, fun b cs z e => World.putObj_heap_other fun e2 => ?_⟩
 subst e2
 rcases e with e | e <;> (rw [h] at e; injection e with e; subst e; cases h1)
theorem KpF.row {B : Nat} {X Y : World} (h : KpF B X Y) {g : Nat} {cs : List Value} (r : Row X g 60 cs) : Row Y g 60 cs := (h.2 g _ _ (.inl r)).trans r
theorem KpF.lp {B : Nat} {X Y : World} (h : KpF B X Y) {g : Nat} {cs : List Value} (r : Row X g 26 cs) : Row Y g 26 cs := (h.2 g _ _ (.inr r)).trans r
set_option maxHeartbeats 8000000 in
theorem extra1_in (n : Nat) (hn : 1 <= n) (l Bb : Nat) (A1 A2 A3 A4 A5 : Option Addr) (n1 n2 n3 n4 n5 c1 c2 c3 c4 c5 : Nat) (k : Nat) (P : PLp) (hP : LpP P) (w0 W : World) (h : LpIn w0 (.slice A1 n1 c1) (.slice A2 n2 c2) (.slice A3 n3 c3) (.slice A4 n4 c4) (.slice A5 n5 c5) k P) (hw : Later w0 W) (hbx : Row W Bb 26 [.slice A1 n1 c1, .slice A2 n2 c2, .slice A3 n3 c3, .slice A4 n4 c4, .slice A5 n5 c5]) (J : List Ex -> World -> Prop)
 (hJl : ∀ pre X Y, J pre X -> W.heap.size <= X.heap.size -> Later X Y -> J pre Y)
 (hY : ∀ pre x W1, J pre W1 -> exG x W1 -> pre.length < 48 -> YieldAt Fence.wide (n - 1) Tryz.prog l (exEnc x) W1 fun e W' => e = .returned (.bool true) /\ J (pre ++ [x]) W' /\ KpF w0.heap.size W1 W') (h0 : J [] W) :
 CallsIn Fence.wide n Tryz.prog 131 #[.func (.yield l) #[] #[], .pointer (some ⟨Bb, 0, none⟩)] W fun e W' => (∃ v, e = .returned v) /\ ∃ xs : List Ex, xs.map exKey = extraL P /\ J xs W' := by
 have HW := hide hw; have HY := hide hY; have HJL := hide hJl; have HP := hide hP; have H := hide h; have HBX := hide hbx
 have L2 := hide h.rows.len_; have L5 := hide h.opn.len_
 have hn2 : n2 <= 24 := by have := hP.rl; have := L2.out; omega
 have hn5 : n5 <= 24 := by have := hP.n24; have := hP.opn; have := L5.out; omega
 have hws := hw.size
 have d0 := hbx.cell (i := 0) rfl; have d1 := hbx.cell (i := 1) rfl; have d2 := hbx.cell (i := 2) rfl; have d3 := hbx.cell (i := 3) rfl; have d4 := hbx.cell (i := 4) rfl
 clear h hY hJl hP hw hbx
 refine callsIn_of_wp Tryz.func131 rfl trivial ?_ rfl
 simp only [Tryz.ntmps131, List.size_toArray, List.length_cons, List.length_nil, Nat.reduceAdd, Nat.reduceSub, Array.replicate_succ, Array.replicate_zero, List.push_toArray, List.append_toArray, List.nil_append, List.cons_append]
 gi_wp2
 clear d0 d1 d2 d3 d4
 gi_loopw [11] (fun i wr => ∃ j : Nat, j <= n2 /\ i = .int .i64 (j : Int) /\ ∃ pre : List Ex, pre.map exKey = extraR (P.rows.take j) 0 /\ J pre wr /\ KpF w0.heap.size W wr) (fun i _ => (n2 - intOf i).toNat)
 case atStart => exact ⟨0, by omega, rfl, [], rfl, h0, KpF.refl _ _⟩
 case round =>
  clear h0
  obtain ⟨j, hj, rfl, pre, hpk, hJ, hK⟩ := hrel
  have HJ := hide hJ; have HK := hide hK; have HPK := hide hpk
  have hlw : Later w0 wr := Below.trans HW.out hK.1
  have hsz := hK.1.size
  clear hJ hK hpk
  by_cases hlt : j < n2
  ·obtain ⟨x, hx⟩ : ∃ x, P.rows[j]? = some x := ⟨P.rows[j]'(by have := L2.out; omega), List.getElem?_eq_getElem _⟩
   obtain ⟨b2, off2, rfl, r, x0, x1, x2, x3, x4, x5, he⟩ := (H.out.later hlw).rows.at6 hx
   have hsn := (HP.out.rows x (List.mem_of_getElem? hx)).2.1
   have htk : extraR (P.rows.take (j+1)) 0 = extraR (P.rows.take j) 0 ++ (senX x.sense).map (fun s => (j, s)) := by
    have hlen : (P.rows.take j).length = j := by rw [List.length_take]; have := L2.out; omega
    rw [List.take_add_one, hx, Option.toList_some, extraR_append, hlen, Nat.zero_add]
    congr 1
    rw [extraR_cons]; show _ ++ [] = _; rw [List.append_nil]
   have HTK := hide htk
   have hpl : pre.length < 48 := by
    have h1 := congrArg List.length HPK.out
    rw [List.length_map] at h1
    have h2 := extraR_len_le (P.rows.take j) 0
    rw [List.length_take] at h2; omega
   have HA := hide ((Later.refl wr).alloc (Obj.cells #[Value.slice r.A r.n r.c, Value.int .i64 x.sense, Value.bool r.e.a, Value.slice r.e.A r.e.n r.e.c, Value.bool r.e.a', Value.slice r.e.A' r.e.n' r.e.c'] 60))
   have HK2 := hide (HK.out.trans (KpF.later (by omega) HA.out))
   have HJ2 := hide (HJL.out _ _ _ HJ.out hsz HA.out)
   have HRW := hide (Row.new wr 60 [.slice r.A r.n r.c, .int .i64 x.sense, .bool r.e.a, .slice r.e.A r.e.n r.e.c, .bool r.e.a', .slice r.e.A' r.e.n' r.e.c'])
   have hs2 := HK2.out.1.size
   have y1 := HRW.out.cell (i := 1) rfl
   have hj24 : j < 48 := by omega
   clear hx htk he
   rcases (by omega : x.sense = 0 ∨ x.sense = 1 ∨ x.sense = 2) with es | es | es
   ·rw [es] at HTK
    have e1 : (x.sense == 0) = true := by rw [es]; rfl
    have e2 : (x.sense == 2) = false := by rw [es]; rfl
    clear es
    gi_wp2_with (first
     | (refine ⟨trivial, ?_⟩; gi_at_call 67; refine (callsIn_wide.2 (pone_calls _)).mono ?_; rintro e w1 ⟨v1, rfl, o1, b1⟩; obtain ⟨s1, P1, q1, e1, P1', q1', e1', rfl, o1⟩ := o1.open_; have O1 := hide o1; clear o1; have HB1 := hide b1; obtain ⟨fn, tmps, assign, body, hy, hR2⟩ := HY.out pre ⟨j, ⟨s1, P1, q1, e1, false, P1', q1', e1'⟩, 1⟩ w1 (HJL.out _ _ _ HJ2.out hs2 b1) ⟨O1.out.at0_, .inl rfl, (show j < 48 by omega)⟩ hpl; simp only [exEnc, RCells.val] at hy; have HR2 := hide hR2; clear hR2; clear b1)
     | (gi_at_call 67; refine (callsIn_wide.2 (pone_calls _)).mono ?_; rintro e w1 ⟨v1, rfl, o1, b1⟩; obtain ⟨s1, P1, q1, e1, P1', q1', e1', rfl, o1⟩ := o1.open_; have O1 := hide o1; clear o1; have HB1 := hide b1; obtain ⟨fn, tmps, assign, body, hy, hR2⟩ := HY.out pre ⟨j, ⟨s1, P1, q1, e1, false, P1', q1', e1'⟩, 1⟩ w1 (HJL.out _ _ _ HJ2.out hs2 b1) ⟨O1.out.at0_, .inl rfl, (show j < 48 by omega)⟩ hpl; simp only [exEnc, RCells.val] at hy; have HR2 := hide hR2; clear hR2; clear b1))
    refine HR2.out.mono ?_
    rintro e W3 ⟨rfl, hJ3, hk3⟩
    have y3 := (hk3.row (HRW.out.later HB1.out)).cell (i := 1) rfl
    have HJ3 := hide hJ3
    have HK3 := hide (HK2.out.trans ((KpF.later (by omega) HB1.out).trans hk3))
    clear hJ3 hk3 y1
    gi_wp2
    repeat (first | (refine ⟨trivial, ?_⟩; gi_wp2) | (refine ⟨fun _ h => (by cases h), ?_⟩; gi_wp2))
    go_roundw
    case rel => exact ⟨j + 1, by omega, by go_num, _, by rw [HTK.out, List.map_append, HPK.out]; rfl, HJ3.out, HK3.out⟩
    case measure => simp [intOf]; omega
   ·have e1 : (x.sense == 0) = false := by rw [es]; rfl
    have e2 : (x.sense == 2) = false := by rw [es]; rfl
    rw [es] at HTK
    clear es
    gi_wp2
    repeat (first | (refine ⟨trivial, ?_⟩; gi_wp2) | (refine ⟨fun _ h => (by cases h), ?_⟩; gi_wp2))
    go_roundw
    case rel => exact ⟨j + 1, by omega, by go_num, pre, by rw [HTK.out, HPK.out]; exact (List.append_nil _).symm, HJ2.out, HK2.out⟩
    case measure => simp [intOf]; omega
   ·have e1 : (x.sense == 0) = false := by rw [es]; rfl
    have e2 : (x.sense == 2) = true := by rw [es]; rfl
    rw [es] at HTK
    clear es
    gi_wp2
    refine ⟨trivial, ?_⟩
    gi_wp2
    refine ⟨fun _ h => (by cases h), ?_⟩
    gi_wp2_with (first
     | (refine ⟨trivial, ?_⟩; gi_at_call 62; refine (callsIn_wide.2 (pzero_calls _)).mono ?_; rintro e w1 ⟨v1, rfl, o1, b1⟩; obtain ⟨s1, P1, q1, e1, P1', q1', e1', rfl, o1⟩ := o1.open_; have O1 := hide o1; clear o1; have HB1 := hide b1; clear b1)
     | (gi_at_call 62; refine (callsIn_wide.2 (pzero_calls _)).mono ?_; rintro e w1 ⟨v1, rfl, o1, b1⟩; obtain ⟨s1, P1, q1, e1, P1', q1', e1', rfl, o1⟩ := o1.open_; have O1 := hide o1; clear o1; have HB1 := hide b1; clear b1)
     | (refine ⟨trivial, ?_⟩; gi_at_call 67; refine (callsIn_wide.2 (pone_calls _)).mono ?_; rintro e w2 ⟨v2, rfl, o2, b2⟩; obtain ⟨s2, P2, q2, e2, P2', q2', e2', rfl, o2⟩ := o2.open_; have O2 := hide o2; clear o2; have HB2 := hide b2; clear b2)
     | (gi_at_call 67; refine (callsIn_wide.2 (pone_calls _)).mono ?_; rintro e w2 ⟨v2, rfl, o2, b2⟩; obtain ⟨s2, P2, q2, e2, P2', q2', e2', rfl, o2⟩ := o2.open_; have O2 := hide o2; clear o2; have HB2 := hide b2; clear b2)
     | (refine ⟨trivial, ?_⟩; gi_at_call 66; refine (callsIn_wide.2 (rsub_calls _ _ _ 0 1 1 1 (OwnR.raw (OwnR.later O1.out HB2.out) sized_0) (OwnR.raw O2.out sized_1) (by omega))).mono ?_; rintro e w3 ⟨v3, rfl, o3, b3⟩; rw [show (0 : Rat) - 1 = -1 by decide +kernel] at o3; obtain ⟨s3, P3, q3, e3, P3', q3', e3', rfl, o3⟩ := o3.open_; have O3 := hide o3; clear o3; have HB3 := hide (HB1.out.trans (HB2.out.trans b3)); clear b3; obtain ⟨fn, tmps, assign, body, hy, hR2⟩ := HY.out pre ⟨j, ⟨s3, P3, q3, e3, false, P3', q3', e3'⟩, -1⟩ w3 (HJL.out _ _ _ HJ2.out hs2 HB3.out) ⟨O3.out.at0_, .inr rfl, (show j < 48 by omega)⟩ hpl; simp only [exEnc, RCells.val] at hy; have HR2 := hide hR2; clear hR2)
     | (gi_at_call 66; refine (callsIn_wide.2 (rsub_calls _ _ _ 0 1 1 1 (OwnR.raw (OwnR.later O1.out HB2.out) sized_0) (OwnR.raw O2.out sized_1) (by omega))).mono ?_; rintro e w3 ⟨v3, rfl, o3, b3⟩; rw [show (0 : Rat) - 1 = -1 by decide +kernel] at o3; obtain ⟨s3, P3, q3, e3, P3', q3', e3', rfl, o3⟩ := o3.open_; have O3 := hide o3; clear o3; have HB3 := hide (HB1.out.trans (HB2.out.trans b3)); clear b3; obtain ⟨fn, tmps, assign, body, hy, hR2⟩ := HY.out pre ⟨j, ⟨s3, P3, q3, e3, false, P3', q3', e3'⟩, -1⟩ w3 (HJL.out _ _ _ HJ2.out hs2 HB3.out) ⟨O3.out.at0_, .inr rfl, (show j < 48 by omega)⟩ hpl; simp only [exEnc, RCells.val] at hy; have HR2 := hide hR2; clear hR2))
    refine HR2.out.mono ?_
    rintro e W3 ⟨rfl, hJ3, hk3⟩
    have HJ3 := hide hJ3
    have HK3 := hide (HK2.out.trans ((KpF.later (by omega) HB3.out).trans hk3))
    clear hJ3 hk3 y1
    gi_wp2
    repeat (first | (refine ⟨trivial, ?_⟩; gi_wp2) | (refine ⟨fun _ h => (by cases h), ?_⟩; gi_wp2))
    go_roundw
    case rel => exact ⟨j + 1, by omega, by go_num, _, by rw [HTK.out, List.map_append, HPK.out]; rfl, HJ3.out, HK3.out⟩
    case measure => simp [intOf]; omega
  ·obtain ⟨PA, hPA⟩ : ∃ l, l = extraR P.rows 0 := ⟨_, rfl⟩
   have HPA := hide hPA
   have HPK2 : Hid (pre.map exKey = PA) := hide (by rw [HPK.out, hPA, List.take_of_length_le (by have := L2.out; omega)])
   have hbx := HK.out.lp HBX.out
   have d0 := hbx.cell (i := 0) rfl; have d1 := hbx.cell (i := 1) rfl; have d2 := hbx.cell (i := 2) rfl; have d3 := hbx.cell (i := 3) rfl; have d4 := hbx.cell (i := 4) rfl
   have hj1 : ¬ (j : Int) < n2 := by omega
   clear hbx hPA HPK
   gi_wp2
   clear d0 d1 d2 d3 d4
   gi_loopw [5, 47] (fun rv i wr => ∃ j : Nat, j <= n5 /\ i = .int .i64 (j : Int) /\ (∃ R : Nat, R = n2 + (endsFrom (P.opn.take j) 0).length /\ rv = .int .i64 (R : Int)) /\ ∃ pre : List Ex, pre.map exKey = PA ++ extraE (P.opn.take j) n2 /\ J pre wr /\ KpF w0.heap.size W wr) (fun _ i _ => (n5 - intOf i).toNat)
   case atStart => exact ⟨0, by omega, rfl, ⟨n2, rfl, rfl⟩, pre, by rw [HPK2.out]; exact (List.append_nil _).symm, HJ.out, HK.out⟩
   case round =>
    clear HJ HK HPK2 hlw hsz
    obtain ⟨j, hj, rfl, ⟨R, hR, rfl⟩, pre, hpk, hJ, hK⟩ := hrel
    have HJ := hide hJ; have HK := hide hK; have HPK := hide hpk; have HRR := hide hR
    have hlw : Later w0 wr := Below.trans HW.out hK.1
    have hsz := hK.1.size
    have hR48 : R <= 24 + j := by
     have h1 := endsFrom_len_le (P.opn.take j) 0
     rw [List.length_take] at h1
     omega
    clear hJ hK hpk hR
    by_cases hlt : j < n5
    ·obtain ⟨o, ho⟩ : ∃ o, P.opn[j]? = some o := ⟨P.opn[j]'(by have := L5.out; omega), List.getElem?_eq_getElem _⟩
     obtain ⟨b5, off5, rfl, z5⟩ := (H.out.later hlw).opn.at_ ho
     have htk : P.opn.take (j+1) = P.opn.take j ++ [o] := by rw [List.take_add_one, ho]; rfl
     have hpl : pre.length < 48 := by
      have h1 := congrArg List.length HPK.out
      rw [List.length_map, List.length_append, extraE_len _ _ 0] at h1
      have h2 := extraR_len_le P.rows 0
      rw [<- HPA.out, <- L2.out] at h2
      have h3 := endsFrom_len_le (P.opn.take j) 0
      rw [List.length_take] at h3; omega
     cases o with
     | true =>
       have he1 : extraE (P.opn.take (j+1)) n2 = extraE (P.opn.take j) n2 := by rw [htk, extraE_append]; exact List.append_nil _
       have he2 : (endsFrom (P.opn.take (j+1)) 0).length = (endsFrom (P.opn.take j) 0).length := by rw [htk, endsFrom_append]; simp [endsFrom]
       have HE1 := hide he1; have HE2 := hide he2
       clear ho htk he1 he2
       gi_wp2
       go_roundw
       case rel => exact ⟨j + 1, by omega, by go_num, ⟨R, by rw [HE2.out]; exact HRR.out, rfl⟩, pre, by rw [HE1.out]; exact HPK.out, HJ.out, HK.out⟩
       case measure => simp [intOf]; omega
     | false =>
       have he1 : extraE (P.opn.take (j+1)) n2 = extraE (P.opn.take j) n2 ++ [(R, 1)] := by rw [htk, extraE_append, HRR.out]; rfl
       have he2 : (endsFrom (P.opn.take (j+1)) 0).length = (endsFrom (P.opn.take j) 0).length + 1 := by rw [htk, endsFrom_append]; simp [endsFrom]
       have HE1 := hide he1; have HE2 := hide he2
       have hw1 : IntKind.i64.wrap ((R : Int) + 1) = (R : Int) + 1 := IntWalk.i64_in _ (by omega)
       have HJ2 := HJ; have hs2 := hsz
       clear ho htk he1 he2
       gi_wp2_with (first
        | (refine ⟨trivial, ?_⟩; gi_at_call 67; refine (callsIn_wide.2 (pone_calls _)).mono ?_; rintro e w1 ⟨v1, rfl, o1, b1⟩; obtain ⟨s1, P1, q1, e1, P1', q1', e1', rfl, o1⟩ := o1.open_; have O1 := hide o1; clear o1; have HB1 := hide b1; obtain ⟨fn, tmps, assign, body, hy, hR2⟩ := HY.out pre ⟨R, ⟨s1, P1, q1, e1, false, P1', q1', e1'⟩, 1⟩ w1 (HJL.out _ _ _ HJ2.out hs2 b1) ⟨O1.out.at0_, .inl rfl, (show R < 48 by omega)⟩ hpl; simp only [exEnc, RCells.val] at hy; have HR2 := hide hR2; clear hR2; clear b1)
        | (gi_at_call 67; refine (callsIn_wide.2 (pone_calls _)).mono ?_; rintro e w1 ⟨v1, rfl, o1, b1⟩; obtain ⟨s1, P1, q1, e1, P1', q1', e1', rfl, o1⟩ := o1.open_; have O1 := hide o1; clear o1; have HB1 := hide b1; obtain ⟨fn, tmps, assign, body, hy, hR2⟩ := HY.out pre ⟨R, ⟨s1, P1, q1, e1, false, P1', q1', e1'⟩, 1⟩ w1 (HJL.out _ _ _ HJ2.out hs2 b1) ⟨O1.out.at0_, .inl rfl, (show R < 48 by omega)⟩ hpl; simp only [exEnc, RCells.val] at hy; have HR2 := hide hR2; clear hR2; clear b1))
       refine HR2.out.mono ?_
       rintro e W3 ⟨rfl, hJ3, hk3⟩
       have HJ3 := hide hJ3
       have HK3 := hide (HK.out.trans ((KpF.later (by omega) HB1.out).trans hk3))
       clear hJ3 hk3
       gi_wp2
       go_roundw
       case rel => exact ⟨j + 1, by omega, by go_num, ⟨R + 1, by rw [HE2.out, HRR.out]; omega, by simp⟩, _, by rw [HE1.out, List.map_append, HPK.out, List.append_assoc]; rfl, HJ3.out, HK3.out⟩
       case measure => simp [intOf]; omega
    ·have hj1 : ¬ (j : Int) < n5 := by omega
     have HF : Hid (pre.map exKey = extraL P) := hide (by
      rw [HPK.out, HPA.out, List.take_of_length_le (by have := L5.out; omega), L2.out]; rfl)
     gi_wp2
     go_end0
     exact ⟨⟨_, rfl⟩, pre, HF.out, HJ.out⟩
end Go.Proofs.YtfokplidiboabaaGreat
namespace Go.Proofs.YtfokplidiboabaaGreat
open Go.RowKit Go.Shelf
def f4 (e : Bool × Value × Bool × Value) : List Value := [.bool e.1, e.2.1, .bool e.2.2.1, e.2.2.2]
theorem f4_set : ∀ (es : List (Bool × Value × Bool × Value)) (i : Nat) (e : Bool × Value × Bool × Value), i < es.length -> (es.set i e).flatMap f4 = ((((es.flatMap f4).set (i * 4) (.bool e.1)).set (i * 4 + 1) e.2.1).set (i * 4 + 2) (.bool e.2.2.1)).set (i * 4 + 3) e.2.2.2
 | [], i, e, h => by simp at h
 | x :: es, 0, e, h => by
   show f4 e ++ es.flatMap f4 = _
   rw [List.flatMap_cons]; rfl
 | x :: es, i+1, e, h => by
   show f4 x ++ (es.set i e).flatMap f4 = _
   rw [f4_set es i e (by simpa using h), List.flatMap_cons]
   have e1 : (i + 1) * 4 = i * 4 + 1 + 1 + 1 + 1 := by omega
   rw [e1]
   rfl
theorem RowU.put {w : World} {lo B g cap n a i : Nat} {l : List Rat} {q : Rat} {s s' : Bool} {A A' : Option Addr} {m c m' c' : Nat} (h : RowU w lo (.slice (some ⟨g, 0, none⟩) n cap) l) (hi : i < l.length) (ha : a = i * 4) (hq : OwnR w B (.agg #[.bool s, .slice A m c, .bool s', .slice A' m' c']) q) :
 RowU ((((w.setCell ⟨g, a, none⟩ (.bool s)).setCell ⟨g, a + 1, none⟩ (.slice A m c)).setCell ⟨g, a + 2, none⟩ (.bool s')).setCell ⟨g, a + 3, none⟩ (.slice A' m' c')) lo (.slice (some ⟨g, 0, none⟩) n cap) (l.set i q) := by
 subst ha
 obtain ⟨es, h1, ⟨k1, k2⟩, h3, h4⟩ := h
 rcases k2 with ⟨e, -⟩ | ⟨g', cap', cur, e, hb, hg, hc, hmx, hs, ht⟩
 ·cases e
 injection e with e1 e2 e3
 injection e1 with e1; injection e1 with e1
 subst e1 e2 e3
 obtain ⟨W, hW⟩ : ∃ W, W = ((((w.setCell ⟨g, i * 4, none⟩ (.bool s)).setCell ⟨g, i * 4 + 1, none⟩ (.slice A m c)).setCell ⟨g, i * 4 + 2, none⟩ (.bool s')).setCell ⟨g, i * 4 + 3, none⟩ (.slice A' m' c')) := ⟨_, rfl⟩
 have r0 : Row w g 36 cur.toList := hg
 have r1 := (((r0.set_ (i * 4) (.bool s)).set_ (i * 4 + 1) (.slice A m c)).set_ (i * 4 + 2) (.bool s')).set_ (i * 4 + 3) (.slice A' m' c')
 have oo : Only g w W := by rw [hW]; exact (((Only.one g w _ _).set _ _).set _ _).set _ _
 rw [<- hW] at r1 ⊢
 clear hW
 have hk : KeepU w W := KeepU.only oo r0 tRat_u32
 refine ⟨es.set i (s, .slice A m c, s', .slice A' m' c'), by rw [List.length_set, List.length_set]; exact h1, ⟨?_, .inr ⟨g, cap, ((((cur.toList.set (i * 4) (.bool s)).set (i * 4 + 1) (.slice A m c)).set (i * 4 + 2) (.bool s')).set (i * 4 + 3) (.slice A' m' c')).toArray, by rw [List.length_set], hb, r1, by rw [List.length_set]; exact hc, hmx, ?_, ?_⟩⟩, ?_, ?_⟩
 ·have := f4_set es i (s, .slice A m c, s', .slice A' m' c') (by omega)
  show ((es.set i (s, Value.slice A m c, s', Value.slice A' m' c')).flatMap f4).length = _
  rw [this, List.length_set, List.length_set, List.length_set, List.length_set, List.length_set]; exact k1
 ·simpa using hs
 ·have := f4_set es i (s, .slice A m c, s', .slice A' m' c') (by omega)
  show List.take _ _ = (es.set i (s, Value.slice A m c, s', Value.slice A' m' c')).flatMap f4
  rw [this, List.length_set]
  simp only [List.toList_toArray, List.take_set, ht]
  rfl
 ·intro e he
  rcases List.mem_or_eq_of_mem_set he with he | rfl
  ·exact h3 e he
  ·exact ⟨⟨_, _, _, rfl⟩, ⟨_, _, _, rfl⟩⟩
 ·have hq2 : On w (fun b => U32B w b /\ some b ≠ (Value.slice (some ⟨g, 0, none⟩) l.length cap).ownBlock) (fun W => OwnR W 0 (.agg #[.bool s, .slice A m c, .bool s', .slice A' m' c']) q) :=
   hq.onU.mono fun b hb _ => ⟨hb, fun e => by injection e with e; exact hb.ne r0 tRat_u32 e⟩
  have h5 := (h4.and hq2).map (T' := fun W => ∀ (j : Nat) (e : Bool × Value × Bool × Value) (x : Rat), (es.set i (s, .slice A m c, s', .slice A' m' c'))[j]? = some e -> (l.set i q)[j]? = some x -> EOwn W (.agg #[.bool e.1, e.2.1, .bool e.2.2.1, e.2.2.2]) x) fun W hW j e x he hx => by
   by_cases hj : j = i
   ·subst hj
    rw [List.getElem?_set_self (by omega)] at he
    rw [List.getElem?_set_self hi] at hx
    injection he with he; injection hx with hx
    subst he hx; exact hW.2
   ·rw [List.getElem?_set_ne (Ne.symm hj)] at he hx
    exact hW.1 j e x he hx
  obtain ⟨F, f1, f2⟩ := h5
  exact ⟨F, fun b hb => ⟨⟨(f1 b hb).1.1.of_eq (hk.2 b (f1 b hb).1.1), (f1 b hb).1.2⟩, Nat.lt_of_lt_of_le (f1 b hb).2 hk.1⟩, fun X hX => f2 X fun b hb => (hX b hb).trans (hk.2 b (f1 b hb).1.1)⟩
end Go.Proofs.YtfokplidiboabaaGreat
namespace Go.Proofs.YtfokplidiboabaaGreat
open Go.RowKit Go.Shelf
attribute [local go_sem ↓] Go.wp_at_zero Go.wp_at_succ
def PBase (w : World) (P : PLp) (e : Ending) (w' : World) : Prop := ∃ A n c b hs, e = .returned (.tuple #[.slice A n c, b]) /\ TabX w' w.heap.size (.slice A n c) hs (baseA P) [b] [baseB P] /\ Later w w'
theorem TabX.weaken {w : World} {lo lo' : Nat} {v : Value} {hs xs : List Value} {t ls : List (List Rat)} (h : TabX w lo v hs t xs ls) (hl : lo' <= lo) : TabX w lo' v hs t xs ls :=
 ⟨ownsRow_weaken h.own hl, ⟨h.tab.len, fun i u l e1 e2 => (h.tab.row i u l e1 e2).weaken hl, h.tab.apart⟩, h.lx, h.sl⟩
theorem TabX.form {w : World} {lo : Nat} {v : Value} {hs xs : List Value} {t ls : List (List Rat)} (h : TabX w lo v hs t xs ls) : ∃ A n c, v = .slice A n c := by
 obtain ⟨-, k2⟩ := h.own
 rcases k2 with ⟨rfl, -⟩ | ⟨g, c, cur, rfl, -⟩ <;> exact ⟨_, _, _, rfl⟩
theorem wpList_make_ratz {w : World} {ops : Array Oper} {rest : List Oper} {o : Oper} {a : Act} {Q : Exit -> Act -> World -> Prop} (hgd : o.guard = none)
 (l : Operand) (hop : o.op = Op.makeSlice 22 l l) (L : Int) (n : Nat) (hl : a.eval l = .int .i64 L) (hL : L = (n : Int)) (b2 : n <= 1000000000)
 (h : ∀ w', Rats (ERaw 1) w' (.slice (some ⟨w.heap.size, 0, none⟩) n n) (List.replicate n 0) -> Later w w' -> wpList Tryz.prog ops Q rest (a.put o.dst (.slice (some ⟨w.heap.size, 0, none⟩) n n)) w') : wpList Tryz.prog ops Q (o :: rest) a w :=
 wpList_plain hgd fun K hK => wp_make_rats_ l hop L n hl hL b2 fun w' h1 h2 => hK _ _ (h w' h1 h2)
set_option maxHeartbeats 16000000 in
theorem pbase_calls (w : World) (A1 A2 A3 A4 A5 : Option Addr) (n1 n2 n3 n4 n5 c1 c2 c3 c4 c5 : Nat) (k : Nat) (P : PLp) (h : LpIn w (.slice A1 n1 c1) (.slice A2 n2 c2) (.slice A3 n3 c3) (.slice A4 n4 c4) (.slice A5 n5 c5) k P) (hP : LpP P) :
 Calls Tryz.prog 64 #[.agg #[.slice A1 n1 c1, .slice A2 n2 c2, .slice A3 n3 c3, .slice A4 n4 c4, .slice A5 n5 c5]] w (PBase w P) := by
 have H := hide h
 have hc1 := h.cost; have hr1 := h.rows; have hl1 := h.lo; have hh1 := h.hi; have ho1 := h.opn
 have L1 := hide hc1.len_; have L2 := hide hr1.len_; have L3 := hide hl1.len_; have L4 := hide hh1.len_; have L5 := hide ho1.len_
 have hn1 : n1 <= 1000 := by have := h.cl; have := L1.out; omega
 have hn2 : n2 <= 1000 := by have := h.rl; have := L2.out; omega
 have hn3 : n3 <= 1000 := by have := h.ll; have := L3.out; omega
 have hn4 : n4 <= 1000 := by have := h.hl; have := L4.out; omega
 have hn5 : n5 <= 1000 := by have := h.ol; have := L5.out; omega
 have hkk := h.kk
 clear h hc1 hr1 hl1 hh1 ho1
 have HP := hide hP
 clear hP
 obtain ⟨W0, hW0⟩ : ∃ W0, W0 = (w.alloc (Obj.cells #[Value.slice A1 n1 c1, Value.slice A2 n2 c2, Value.slice A3 n3 c3, Value.slice A4 n4 c4, Value.slice A5 n5 c5] 26)) := ⟨_, rfl⟩
 obtain ⟨hb0, r0, hsz0⟩ := boxes1 w [.slice A1 n1 c1, .slice A2 n2 c2, .slice A3 n3 c3, .slice A4 n4 c4, .slice A5 n5 c5] 26 hW0
 have B0 := hide hb0; have HW0 := hide hW0; have HSZ0 := hide hsz0
 have R0 := hide r0
 clear hb0 hW0 hsz0 r0
 go_enter Tryz.func64, Tryz.ntmps64
 go_upto_region 3 with fail
 rw [<- HW0.out]
 have r_d := R0.out.later (Later.refl W0)
 have d0 := r_d.cell (i := 0) rfl; have d1 := r_d.cell (i := 1) rfl; have d2 := r_d.cell (i := 2) rfl; have d3 := r_d.cell (i := 3) rfl; have d4 := r_d.cell (i := 4) rfl
 clear r_d
 go_wp2_with fail
 clear d0 d1 d2 d3 d4
 have hws : w.heap.size <= W0.heap.size := B0.out.size
 go_loopw [4, 5, 16] (fun a b i wr => ∃ j : Nat, j <= n2 /\ i = .int .i64 (j : Int) /\ ∃ hs, TabX wr W0.heap.size a hs ((P.rows.take j).map (·.coef)) [b] [(P.rows.take j).map fun r => r.rhs - dotL r.coef P.lo] /\ Later W0 wr) (fun _ _ i _ => (n2 - intOf i).toNat)
 case atStart => exact ⟨0, by omega, rfl, [], (TabX.nil _ _).loose (Later.refl _) (RowU.nil _ _) (fun k hk => by cases hk), Later.refl _⟩
 case round =>
  obtain ⟨j, hj, rfl, hs, hT, hL⟩ := hrel
  have HTX := hide hT; have HL := hide hL
  clear hT hL
  by_cases hjn : j < n2
  ·obtain ⟨x, hx⟩ : ∃ x, P.rows[j]? = some x := ⟨P.rows[j]'(by have := L2.out; omega), List.getElem?_eq_getElem _⟩
   have HTK : Hid (P.rows.take (j+1) = P.rows.take j ++ [x]) := hide (by rw [List.take_add_one, hx]; rfl)
   obtain ⟨b2, off2, hA2, r, x0, x1, x2, x3, x4, x5, he⟩ := (H.out.rows.later ERow.later B0.out).at6 hx
   subst hA2
   have y0 := Later.cell HL.out x0; have y1 := Later.cell HL.out x1; have y2 := Later.cell HL.out x2; have y3 := Later.cell HL.out x3; have y4 := Later.cell HL.out x4; have y5 := Later.cell HL.out x5
   have HE : Hid (ERowS k W0 r x) := hide he
   have HCO : Hid (∀ w', Later W0 w' -> Rats (ERaw k) w' (.slice r.A r.n r.c) x.coef) := hide fun w' hb => Rats.later ERaw.later HE.out.coef hb
   have HRH : Hid (∀ w', Later W0 w' -> RawR w' (.agg #[.bool r.e.a, .slice r.e.A r.e.n r.e.c, .bool r.e.a', .slice r.e.A' r.e.n' r.e.c']) x.rhs k) := hide fun w' hb => RawR.later HE.out.rhs hb
   have hxc := (HP.out.rows x (List.mem_of_getElem? hx)).1
   have HXL : Hid (x.coef.length = P.lo.length) := hide (by rw [hxc, HP.out.lo])
   have hx24 := HP.out.n24
   have HSZ : Hid ((x.coef.length + 1) * (k + k + 4) <= 50000000) := hide (by
    have : (x.coef.length + 1) * (k + k + 4) <= 25 * 2004 := Nat.mul_le_mul (by omega) (by omega)
    omega)
   have HSD : Hid (Sized (dotL x.coef P.lo) 1000000) := hide ((sized_dotL (Rats.sized HE.out.coef) (Rats.sized H.out.lo)).mono (by
    have : x.coef.length * (k + 1 + (k + 1) + 1) <= 24 * 2003 := Nat.mul_le_mul (by omega) (by omega)
    omega))
   have hj0 : (0 : Int) <= (j : Int) := by omega
   have hj1 : (j : Int) < n2 := by omega
   clear hx he x0 x1 x2 x3 x4 x5 hxc
   go_upto_region 6 with fail
   obtain ⟨wx, hwx⟩ : ∃ wx, wx = wr.alloc (Obj.cells #[Value.slice r.A r.n r.c, Value.int .i64 x.sense, Value.bool r.e.a, Value.slice r.e.A r.e.n r.e.c, Value.bool r.e.a', Value.slice r.e.A' r.e.n' r.e.c'] 60) := ⟨_, rfl⟩
   obtain ⟨gx, hgx⟩ : ∃ gx, gx = wr.heap.size := ⟨_, rfl⟩
   have bwx : Later wr wx := by rw [hwx]; exact (Later.refl _).alloc _
   have rgx : Row wx gx 60 [.slice r.A r.n r.c, .int .i64 x.sense, .bool r.e.a, .slice r.e.A r.e.n r.e.c, .bool r.e.a', .slice r.e.A' r.e.n' r.e.c'] := by rw [hwx, hgx]; exact Row.new _ _ _
   rw [<- hwx, <- hgx]
   have HGX : Hid (wr.heap.size <= gx) := hide (by rw [hgx]; exact Nat.le_refl _)
   have RX := hide rgx; have HRX := hide bwx
   clear hwx hgx bwx rgx y0 y1 y2 y3 y4 y5
   have r_d := R0.out.later (HL.out.trans HRX.out)
   have d0 := r_d.cell (i := 0) rfl; have d1 := r_d.cell (i := 1) rfl; have d2 := r_d.cell (i := 2) rfl; have d3 := r_d.cell (i := 3) rfl; have d4 := r_d.cell (i := 4) rfl
   clear r_d
   have f0 := RX.out.cell (i := 0) rfl; have f1 := RX.out.cell (i := 1) rfl; have f2 := RX.out.cell (i := 2) rfl; have f3 := RX.out.cell (i := 3) rfl; have f4 := RX.out.cell (i := 4) rfl; have f5 := RX.out.cell (i := 5) rfl
   go_wp2_with fail
   ((with_reducible refine (dot_calls _ _ _ x.coef P.lo k k (HCO.out _ (HL.out.trans HRX.out)) (Rats.later ERaw.later H.out.lo (B0.out.trans (HL.out.trans HRX.out))) HXL.out HSZ.out).mono ?_); rintro e w8 ⟨v8, ok, rfl, ⟨o8, rfl⟩, b8⟩)
   obtain ⟨s8, P8, q8, e8, P8', q8', e8', rfl, o8⟩ := o8.open_; have O8 := hide o8; clear o8
   have HB8 := hide b8
   clear b8 d0 d1 d2 d3 d4 f0 f1 f2 f3 f4 f5
   go_upto_region 7 with fail
   obtain ⟨wl, hwl⟩ : ∃ wl, wl = w8.alloc (Obj.cells #[Value.bool s8, Value.slice P8 q8 e8, Value.bool false, Value.slice P8' q8' e8'] 36) := ⟨_, rfl⟩
   obtain ⟨gl, hgl⟩ : ∃ gl, gl = w8.heap.size := ⟨_, rfl⟩
   have bwl : Later w8 wl := by rw [hwl]; exact (Later.refl _).alloc _
   have rgl : Row wl gl 36 [.bool s8, .slice P8 q8 e8, .bool false, .slice P8' q8' e8'] := by rw [hwl, hgl]; exact Row.new _ _ _
   rw [<- hwl, <- hgl]
   have HGL : Hid (wr.heap.size <= gl) := hide (by rw [hgl]; have h1 := HRX.out.size; have h2 := HB8.out.size; omega)
   have HRl := hide (HRX.out.trans (HB8.out.trans bwl)); have RL := hide rgl; have O8a := hide (OwnR.later O8.out bwl)
   have HLl := hide (HL.out.trans HRl.out)
   have RX8 := hide (RX.out.later (HB8.out.trans bwl))
   clear hwl hgl bwl rgl O8 RX
   have O8 := O8a; have RX := RX8
   clear O8a RX8
   have HT1 : Hid (∀ w', Later wl w' -> w'.cell? ⟨gx, 0, none⟩ = some (.slice r.A r.n r.c) /\ w'.cell? ⟨gx, 2, none⟩ = some (.bool r.e.a) /\ w'.cell? ⟨gx, 3, none⟩ = some (.slice r.e.A r.e.n r.e.c) /\ w'.cell? ⟨gx, 4, none⟩ = some (.bool r.e.a') /\ w'.cell? ⟨gx, 5, none⟩ = some (.slice r.e.A' r.e.n' r.e.c') /\ w'.cell? ⟨gl, 0, none⟩ = some (.bool s8) /\ w'.cell? ⟨gl, 1, none⟩ = some (.slice P8 q8 e8) /\ w'.cell? ⟨gl, 2, none⟩ = some (.bool false) /\ w'.cell? ⟨gl, 3, none⟩ = some (.slice P8' q8' e8')) := hide fun w' hb => by
    have h1 := RX.out.later hb; have h2 := RL.out.later hb
    exact ⟨h1.cell rfl, h1.cell rfl, h1.cell rfl, h1.cell rfl, h1.cell rfl, h2.cell rfl, h2.cell rfl, h2.cell rfl, h2.cell rfl⟩
   have hmx : Tryz.prog.follows .mixedOrders = true := by kernel_rfl
   refine wp_region_N (fun w' => w'.cell? ⟨gx, 0, none⟩ = some (.slice r.A r.n r.c) /\ w'.cell? ⟨gx, 2, none⟩ = some (.bool r.e.a) /\ w'.cell? ⟨gx, 3, none⟩ = some (.slice r.e.A r.e.n r.e.c) /\ w'.cell? ⟨gx, 4, none⟩ = some (.bool r.e.a') /\ w'.cell? ⟨gx, 5, none⟩ = some (.slice r.e.A' r.e.n' r.e.c') /\ w'.cell? ⟨gl, 0, none⟩ = some (.bool s8) /\ w'.cell? ⟨gl, 1, none⟩ = some (.slice P8 q8 e8) /\ w'.cell? ⟨gl, 2, none⟩ = some (.bool false) /\ w'.cell? ⟨gl, 3, none⟩ = some (.slice P8' q8' e8')) [] hmx (HT1.out _ lt_) (fun hHeld => ?_)
   refine tkB 28 0 ?_
   refine tkB 29 1 ?_
   refine tkB 30 2 ?_
   refine tkB 34 6 ?_
   refine tkB 35 7 ?_
   refine tkB 36 8 ?_
   refine tkB 37 9 ?_
   refine wpAnyN_ready (rs := [3]) (by kernel_rfl) (by simp) ?_
   refine AllReadyN.held rfl (by rfl) (fun K hK => ?_) AllReadyN.nil
   go_simp
   refine (pplain_calls _ _ x.coef k (HCO.out _ (Later.trans HLl.out lt_)) (by have := HE.out.cl; omega) (by omega)).mono ?_
   rintro e w3 ⟨v3, rfl, r3, b3⟩
   obtain ⟨A30, n30, c30, rfl⟩ := r3.form
   have l3 : Later wl w3 := Later.trans lt_ b3
   have hw3 := l3.size
   have R3 := hide (show RowU w3 wl.heap.size _ x.coef from r3)
   have hr3 := R3.out.lt
   clear b3 r3
   refine hK.out _ _ ?_ (fun hHeld => ?_)
   ·exact HT1.out _ lt_
   clear hK K
   try simp only [Act.put, s1_, s2_, s3_]
   refine wpAnyN_ready (rs := [4]) (by kernel_rfl) (by simp) ?_
   refine AllReadyN.held rfl (by rfl) (fun K hK => ?_) AllReadyN.nil
   go_simp
   refine hK.out _ _ ?_ (fun hHeld => ?_)
   ·exact HT1.out _ lt_
   clear hK K
   try simp only [Act.put, s1_, s2_, s3_]
   refine wpAnyN_ready (rs := [5]) (by kernel_rfl) (by simp) ?_
   refine AllReadyN.held rfl (by rfl) (fun K hK => ?_) AllReadyN.nil
   have hlr : Later wr w3 := HRl.out.trans l3
   refine wp_append_tabx _ _ rfl rfl (HTX.out.later (Later.trans hlr lt_)) rfl (Row.later (Row.new w3 22 [.slice A30 n30 c30]) lt_) ((R3.out.later lt_).weaken (by have h1 := HRl.out.size; have h2 := HL.out.size; omega)) (fun u hu k hk1 hk2 => by
    have h5 := (HTX.out.tab.ratBlock hu hk1).choose_spec.lt
    have h6 := (hr3 k hk2).1
    have h7 := HRl.out.size
    omega) (by rw [HTX.out.ht, List.length_map, List.length_take]; omega) (by have := HL.out.size; have := HRl.out.size; show _ <= (w3.alloc _).heap.size; rw [World.size_alloc]; omega) ?_
   intro v5 w5 k1 k2 k3
   replace k2 : (w3.alloc (Obj.cells #[Value.slice A30 n30 c30] 22)).grownBy w5 u4.ownBlock := k2
   obtain ⟨A5a, n5a, c5a, rfl⟩ := k1.form
   have hbl := World.ownsRow.lt HTX.out.own
   have kk1 : KeepU wl w5 := (KeepU.later (show Later wl (w3.alloc (Obj.cells #[Value.slice A30 n30 c30] 22)) from lt_)).trans (KeepU.grown k2 (ownsRow_later HTX.out.own (Later.trans hlr lt_)) tRow_u32)
   have O8b := hide (O8.out.keepU kk1)
   have HL5 : Later W0 w5 := Later.grown (HL.out.trans (Later.trans hlr (show Later w3 (w3.alloc (Obj.cells #[Value.slice A30 n30 c30] 22)) from lt_))) k2 (fun k hk => (hbl k hk).1)
   have rx5 := (RX.out.later (l3.trans (show Later w3 (w3.alloc (Obj.cells #[Value.slice A30 n30 c30] 22)) from lt_))).grown k2 (fun e => by have := (hbl _ e.symm).2; have := HGX.out; omega)
   have rl5 := (RL.out.later (l3.trans (show Later w3 (w3.alloc (Obj.cells #[Value.slice A30 n30 c30] 22)) from lt_))).grown k2 (fun e => by have := (hbl _ e.symm).2; have := HGL.out; omega)
   have HT5 : Hid (∀ w', Later w5 w' -> w'.cell? ⟨gx, 0, none⟩ = some (.slice r.A r.n r.c) /\ w'.cell? ⟨gx, 2, none⟩ = some (.bool r.e.a) /\ w'.cell? ⟨gx, 3, none⟩ = some (.slice r.e.A r.e.n r.e.c) /\ w'.cell? ⟨gx, 4, none⟩ = some (.bool r.e.a') /\ w'.cell? ⟨gx, 5, none⟩ = some (.slice r.e.A' r.e.n' r.e.c') /\ w'.cell? ⟨gl, 0, none⟩ = some (.bool s8) /\ w'.cell? ⟨gl, 1, none⟩ = some (.slice P8 q8 e8) /\ w'.cell? ⟨gl, 2, none⟩ = some (.bool false) /\ w'.cell? ⟨gl, 3, none⟩ = some (.slice P8' q8' e8')) := hide fun w' hb => by
    have h1 := rx5.later hb; have h2 := rl5.later hb
    exact ⟨h1.cell rfl, h1.cell rfl, h1.cell rfl, h1.cell rfl, h1.cell rfl, h2.cell rfl, h2.cell rfl, h2.cell rfl, h2.cell rfl⟩
   have K1 := hide k1; have RX5 := hide rx5; have RL5 := hide rl5
   clear k1 k2 k3 hbl kk1 rx5 rl5 l3 hlr hr3
   refine hK.out _ _ ?_ (fun hHeld => ?_)
   ·exact HT5.out _ lt_
   clear hK K
   try simp only [Act.put, s1_, s2_, s3_]
   refine wpAnyN_ready (rs := [10]) (by kernel_rfl) (by simp) ?_
   refine AllReadyN.held rfl (by rfl) (fun K hK => ?_) AllReadyN.nil
   go_simp
   refine (rsub_calls _ _ _ x.rhs (dotL x.coef P.lo) k 1000000 (HRH.out _ (Later.trans HL5 lt_)) (OwnR.raw (OwnR.later O8b.out lt_) HSD.out) (by omega)).mono ?_
   rintro e w10 ⟨v10, rfl, o10, b10⟩
   obtain ⟨s10, P10, q10, e10, P10', q10', e10', rfl, o10⟩ := o10.open_; have O10 := hide o10; clear o10
   have l10 : Later w5 w10 := Later.trans lt_ b10
   clear b10
   refine hK.out _ _ ?_ (fun hHeld => ?_)
   ·exact HT5.out _ lt_
   clear hK K
   try simp only [Act.put, s1_, s2_, s3_]
   refine wpAnyN_ready (rs := [11]) (by kernel_rfl) (by simp) ?_
   refine AllReadyN.held rfl (by rfl) (fun K hK => ?_) AllReadyN.nil
   go_simp
   refine hK.out _ _ ?_ (fun hHeld => ?_)
   ·exact HT5.out _ lt_
   clear hK K
   try simp only [Act.put, s1_, s2_, s3_]
   refine wpAnyN_ready (rs := [12]) (by kernel_rfl) (by simp) ?_
   refine AllReadyN.held rfl (by rfl) (fun K hK => ?_) AllReadyN.nil
   refine wp_append_loose _ _ rfl 0 rfl (K1.out.later (Later.trans l10 lt_)) rfl rfl rfl (Row.later (Row.new w10 36 [.bool s10, .slice P10 q10 e10, .bool false, .slice P10' q10' e10']) lt_) (OwnR.later O10.out lt_) (by rw [List.length_map, List.length_take]; omega) (by have := HL5.size; have := l10.size; show _ <= (w10.alloc _).heap.size; rw [World.size_alloc]; omega) ?_
   intro v12 w12 m1 m2 m3
   replace m2 : (w10.alloc (Obj.cells #[Value.bool s10, Value.slice P10 q10 e10, Value.bool false, Value.slice P10' q10' e10'] 36)).grownBy w12 u5.ownBlock := m2
   have hbx := (K1.out.x (i := 0) rfl rfl).lt
   have hbw := (HTX.out.x (i := 0) rfl rfl).lt
   have rx12 := (RX5.out.later (l10.trans (show Later w10 (w10.alloc (Obj.cells #[Value.bool s10, Value.slice P10 q10 e10, Value.bool false, Value.slice P10' q10' e10'] 36)) from lt_))).grown m2 (fun e => by have := (hbw _ e.symm).2; have := HGX.out; omega)
   have rl12 := (RL5.out.later (l10.trans (show Later w10 (w10.alloc (Obj.cells #[Value.bool s10, Value.slice P10 q10 e10, Value.bool false, Value.slice P10' q10' e10'] 36)) from lt_))).grown m2 (fun e => by have := (hbw _ e.symm).2; have := HGL.out; omega)
   have HT12 : Hid (∀ w', Later w12 w' -> w'.cell? ⟨gx, 0, none⟩ = some (.slice r.A r.n r.c) /\ w'.cell? ⟨gx, 2, none⟩ = some (.bool r.e.a) /\ w'.cell? ⟨gx, 3, none⟩ = some (.slice r.e.A r.e.n r.e.c) /\ w'.cell? ⟨gx, 4, none⟩ = some (.bool r.e.a') /\ w'.cell? ⟨gx, 5, none⟩ = some (.slice r.e.A' r.e.n' r.e.c') /\ w'.cell? ⟨gl, 0, none⟩ = some (.bool s8) /\ w'.cell? ⟨gl, 1, none⟩ = some (.slice P8 q8 e8) /\ w'.cell? ⟨gl, 2, none⟩ = some (.bool false) /\ w'.cell? ⟨gl, 3, none⟩ = some (.slice P8' q8' e8')) := hide fun w' hb => by
    have h1 := rx12.later hb; have h2 := rl12.later hb
    exact ⟨h1.cell rfl, h1.cell rfl, h1.cell rfl, h1.cell rfl, h1.cell rfl, h2.cell rfl, h2.cell rfl, h2.cell rfl, h2.cell rfl⟩
   clear rx12 rl12 hbw
   have HL12 : Later W0 w12 := Later.grown (HL5.trans (Later.trans l10 (show Later w10 (w10.alloc (Obj.cells #[Value.bool s10, Value.slice P10 q10 e10, Value.bool false, Value.slice P10' q10' e10'] 36)) from lt_))) m2 (fun k hk => (hbx k hk).1)
   refine hK.out _ _ ?_ (fun hHeld => ?_)
   ·exact HT12.out _ lt_
   clear hK K
   try simp only [Act.put, s1_, s2_, s3_]
   refine tkB 4 13 ?_
   refine tkB 5 14 ?_
   refine wpAnyN_done (by kernel_rfl) ?_ _
   have HE1 : Hid (TabX w12 W0.heap.size (.slice A5a n5a c5a) (hs ++ [.slice A30 n30 c30]) ((P.rows.take (j+1)).map (·.coef)) [v12] [(P.rows.take (j+1)).map fun r => r.rhs - dotL r.coef P.lo]) := hide (by
    rw [HTK.out, List.map_append, List.map_append]; exact m1)
   have HE2 := hide HL12
   clear hHeld m1 m2 m3 hbx HL12 HL5 l10
   go_wp2_with fail
   exact ⟨⟨j+1, by omega, by go_num, _, HE1.out, HE2.out⟩, by simp [intOf]; omega⟩
  ·have HTX2 : Hid (TabX wr W0.heap.size u4 hs (P.rows.map (·.coef)) [u5] [P.rows.map fun r => r.rhs - dotL r.coef P.lo]) := hide (by
    have h1 := HTX.out
    rw [List.take_of_length_le (by have := L2.out; omega)] at h1; exact h1)
   obtain ⟨w1, hw1⟩ : ∃ w1, w1 = wr := ⟨_, rfl⟩
   subst hw1
   have HL1 := HL
   have hj1 : ¬ (j : Int) < n2 := by omega
   have r_d := R0.out.later HL1.out
   have d0 := r_d.cell (i := 0) rfl; have d1 := r_d.cell (i := 1) rfl; have d2 := r_d.cell (i := 2) rfl; have d3 := r_d.cell (i := 3) rfl; have d4 := r_d.cell (i := 4) rfl
   clear r_d
   clear HTX HL
   go_wp2_with fail
   clear d0 d1 d2 d3 d4
   go_loopw [4, 5, 45] (fun a b i wr => ∃ j : Nat, j <= n5 /\ i = .int .i64 (j : Int) /\ ∃ hs, TabX wr W0.heap.size a hs (P.rows.map (·.coef) ++ (endsFrom (P.opn.take j) 0).map (unitL P.cost.length)) [b] [P.rows.map (fun r => r.rhs - dotL r.coef P.lo) ++ (endsFrom (P.opn.take j) 0).map fun i => P.hi.getD i 0 - P.lo.getD i 0] /\ Later W0 wr) (fun _ _ i _ => (n5 - intOf i).toNat)
   case atStart => exact ⟨0, by omega, rfl, hs, by simpa [endsFrom] using HTX2.out, HL1.out⟩
   case round =>
    clear HTX2
    obtain ⟨j, hj, rfl, hs, hT, hL⟩ := hrel
    have HTX := hide hT; have HL := hide hL
    have HLE : Hid ((endsFrom (P.opn.take j) 0).length <= 1000) := hide (by
     have h1 := endsFrom_len_le (P.opn.take j) 0
     rw [List.length_take] at h1; have := H.out.ol; omega)
    have HLN : Hid ((P.rows.map (·.coef) ++ (endsFrom (P.opn.take j) 0).map (unitL P.cost.length)).length <= 2000) := hide (by
     rw [List.length_append, List.length_map, List.length_map]; have := HLE.out; have := HP.out.rl; omega)
    clear hT hL
    by_cases hjn : j < n5
    ·obtain ⟨o, ho⟩ : ∃ o, P.opn[j]? = some o := ⟨P.opn[j]'(by have := L5.out; omega), List.getElem?_eq_getElem _⟩
     obtain ⟨b5, off5, rfl, z5⟩ := (H.out.opn.later (B0.out.trans HL.out)).at_ ho
     have htk : P.opn.take (j+1) = P.opn.take j ++ [o] := by rw [List.take_add_one, ho]; rfl
     have hlt : (P.opn.take j).length = j := by rw [List.length_take]; have := L5.out; omega
     have hj0 : (0 : Int) <= (j : Int) := by omega
     have hj1 : (j : Int) < n5 := by omega
     cases o with
     | true =>
       have HEN : Hid (endsFrom (P.opn.take (j+1)) 0 = endsFrom (P.opn.take j) 0) := hide (by rw [htk, endsFrom_append]; exact List.append_nil _)
       clear ho htk
       go_wp2_with fail
       exact ⟨⟨j+1, by omega, by go_num, hs, by rw [HEN.out]; exact HTX.out, HL.out⟩, by simp [intOf]; omega⟩
     | false =>
       have HEN : Hid (endsFrom (P.opn.take (j+1)) 0 = endsFrom (P.opn.take j) 0 ++ [j]) := hide (by rw [htk, endsFrom_append, hlt, Nat.zero_add]; rfl)
       have hn1n : j < P.cost.length := by have := HP.out.opn; have := L5.out; omega
       have hn11 : j < n1 := by have := L1.out; omega
       obtain ⟨a4, ha4⟩ : ∃ o, P.hi[j]? = some o := ⟨P.hi[j]'(by have := HP.out.hi; omega), List.getElem?_eq_getElem _⟩
       obtain ⟨a3, ha3⟩ : ∃ o, P.lo[j]? = some o := ⟨P.lo[j]'(by have := HP.out.lo; omega), List.getElem?_eq_getElem _⟩
       have hj3 : (j : Int) < n3 := by have := HP.out.lo; have := L3.out; omega
       have hj4 : (j : Int) < n4 := by have := HP.out.hi; have := L4.out; omega
       have hj2 : ((j : Int)).toNat = j := by omega
       obtain ⟨b4, off4, s4, P4, q4, e4, s4', P4', q4', e4', rfl, y1, y2, y3, y4, ea4⟩ := (H.out.hi.later ERaw.later B0.out).at_ ha4
       obtain ⟨b3, off3, s3, P3, q3, e3, s3', P3', q3', e3', rfl, z1, z2, z3, z4, ea3⟩ := (H.out.lo.later ERaw.later B0.out).at_ ha3
       have HH4 : Hid (P.hi.getD j 0 = a4) := hide (by rw [List.getD_eq_getElem?_getD, ha4]; rfl)
       have HH3 : Hid (P.lo.getD j 0 = a3) := hide (by rw [List.getD_eq_getElem?_getD, ha3]; rfl)
       have HA4 : Hid (∀ w', Later W0 w' -> RawR w' (.agg #[.bool s4, .slice P4 q4 e4, .bool s4', .slice P4' q4' e4']) a4 k) := hide fun w' hb => RawR.later ea4 hb
       have HA3 : Hid (∀ w', Later W0 w' -> RawR w' (.agg #[.bool s3, .slice P3 q3 e3, .bool s3', .slice P3' q3' e3']) a3 k) := hide fun w' hb => RawR.later ea3 hb
       have HT1 : Hid (∀ w', Later W0 w' -> w'.cell? ⟨w.heap.size, 3, none⟩ = some (.slice (some ⟨b4, off4, none⟩) n4 c4) /\ w'.cell? ⟨w.heap.size, 2, none⟩ = some (.slice (some ⟨b3, off3, none⟩) n3 c3) /\ w'.cell? ⟨b4, off4 + j * 4, none⟩ = some (.bool s4) /\ w'.cell? ⟨b4, off4 + j * 4 + 1, none⟩ = some (.slice P4 q4 e4) /\ w'.cell? ⟨b4, off4 + j * 4 + 2, none⟩ = some (.bool s4') /\ w'.cell? ⟨b4, off4 + j * 4 + 3, none⟩ = some (.slice P4' q4' e4') /\ w'.cell? ⟨b3, off3 + j * 4, none⟩ = some (.bool s3) /\ w'.cell? ⟨b3, off3 + j * 4 + 1, none⟩ = some (.slice P3 q3 e3) /\ w'.cell? ⟨b3, off3 + j * 4 + 2, none⟩ = some (.bool s3') /\ w'.cell? ⟨b3, off3 + j * 4 + 3, none⟩ = some (.slice P3' q3' e3')) := hide fun w' hb => by
        have h1 := R0.out.later hb
        exact ⟨h1.cell rfl, h1.cell rfl, Later.cell hb y1, Later.cell hb y2, Later.cell hb y3, Later.cell hb y4, Later.cell hb z1, Later.cell hb z2, Later.cell hb z3, Later.cell hb z4⟩
       clear ho htk ha4 ha3 y1 y2 y3 y4 z1 z2 z3 z4 ea4 ea3
       have r_d := R0.out.later HL.out
       have d0 := r_d.cell (i := 0) rfl; have d1 := r_d.cell (i := 1) rfl; have d2 := r_d.cell (i := 2) rfl; have d3 := r_d.cell (i := 3) rfl; have d4 := r_d.cell (i := 4) rfl
       clear r_d
       go_upto_region 14 with (first
        | (at_make; refine wpList_make_ratz rfl (.tmp 53) rfl _ n1 rfl rfl (by omega) ?_; intro w13 zr zl; have ZR := hide zr; have ZL := hide zl; clear zr zl)
        | ((with_reducible refine (pplain_calls _ _ (List.replicate n1 0) 1 ZR.out (by simp; omega) (by omega)).mono ?_); rintro e w14 ⟨v14, rfl, r14, b14⟩; have R14 := hide r14; have B14 := hide b14; clear r14 b14))
       obtain ⟨gr, cr, csr, hv14, hgl, -, -, hrr⟩ := OutRats.row R14.out (by rw [List.length_replicate]; omega)
       subst hv14
       have hlen : (List.replicate n1 (0 : Rat)).length = n1 := List.length_replicate ..
       have R14n : RowU w14 w13.heap.size (.slice (some ⟨gr, 0, none⟩) n1 cr) (List.replicate n1 0) := by have h1 := R14.out; rwa [hlen] at h1
       try simp only [List.length_replicate]
       clear hlen R14
       have R14 := hide R14n
       have HRR := hide hrr
       clear R14n hrr d0 d1 d2 d3 d4
       go_wp2_with fail
       ((with_reducible refine (pone_calls _).mono ?_); rintro e w15 ⟨v15, rfl, o15, b15⟩)
       obtain ⟨s15, P15, q15, e15, P15', q15', e15', rfl, o15⟩ := o15.open_; have O15 := hide o15; clear o15
       have R15 := R14.out.later b15
       have rr := HRR.out.later b15
       obtain ⟨bb, of', t0, T1, m1, d1, t2, T2, m2, d2, hA, x1, x2, x3, x4, -⟩ := R15.rats.at_ (i := j) (q := 0) (by rw [List.getElem?_replicate, if_pos hn11])
       injection hA with hA; injection hA with hA1 hA2
       subst hA1 hA2
       rw [Nat.zero_add] at x1 x2 x3 x4
       have fz0 := rr.frozen (j * 4); have fz1 := rr.frozen (j * 4 + 1); have fz2 := rr.frozen (j * 4 + 2); have fz3 := rr.frozen (j * 4 + 3)
       have HR15 := hide R15; have HB15 := hide b15
       have hj11 : (j : Int) < n1 := by omega
       clear R15 rr b15
       go_upto_region 15 with fail
       obtain ⟨wl, hwl⟩ : ∃ W, W = ((((w15.setCell ⟨gr, j * 4, none⟩ (.bool s15)).setCell ⟨gr, j * 4 + 1, none⟩ (.slice P15 q15 e15)).setCell ⟨gr, j * 4 + 2, none⟩ (.bool false)).setCell ⟨gr, j * 4 + 3, none⟩ (.slice P15' q15' e15')) := ⟨_, rfl⟩
       have ol : Only gr w15 wl := by rw [hwl]; exact (((Only.one gr w15 _ _).set _ _).set _ _).set _ _
       have HUN : Hid (RowU wl wr.heap.size (.slice (some ⟨gr, 0, none⟩) n1 cr) (unitL P.cost.length j)) := hide (by
        have h1 := (RowU.put HR15.out (i := j) (by rw [List.length_replicate]; exact hn11) rfl O15.out).weaken ZL.out.size
        rw [<- hwl] at h1
        unfold unitL; rw [<- L1.out]; exact h1)
       have HRl : Hid (Later wr wl) := hide ((ZL.out.trans (B14.out.trans HB15.out)).only ol (by have h1 := ZL.out.size; omega))
       rw [<- hwl]
       clear hwl ol x1 x2 x3 x4 fz0 fz1 fz2 fz3 HR15
       have hmx : Tryz.prog.follows .mixedOrders = true := by kernel_rfl
       refine wp_region_N (fun w' => w'.cell? ⟨w.heap.size, 3, none⟩ = some (.slice (some ⟨b4, off4, none⟩) n4 c4) /\ w'.cell? ⟨w.heap.size, 2, none⟩ = some (.slice (some ⟨b3, off3, none⟩) n3 c3) /\ w'.cell? ⟨b4, off4 + j * 4, none⟩ = some (.bool s4) /\ w'.cell? ⟨b4, off4 + j * 4 + 1, none⟩ = some (.slice P4 q4 e4) /\ w'.cell? ⟨b4, off4 + j * 4 + 2, none⟩ = some (.bool s4') /\ w'.cell? ⟨b4, off4 + j * 4 + 3, none⟩ = some (.slice P4' q4' e4') /\ w'.cell? ⟨b3, off3 + j * 4, none⟩ = some (.bool s3) /\ w'.cell? ⟨b3, off3 + j * 4 + 1, none⟩ = some (.slice P3 q3 e3) /\ w'.cell? ⟨b3, off3 + j * 4 + 2, none⟩ = some (.bool s3') /\ w'.cell? ⟨b3, off3 + j * 4 + 3, none⟩ = some (.slice P3' q3' e3')) [] hmx (HT1.out _ (HL.out.trans (HRl.out.trans lt_))) (fun hHeld => ?_)
       refine tkB 60 0 ?_
       refine tkB 61 1 ?_
       refine tkB 64 4 ?_
       refine tkB 65 5 ?_
       refine tkB 66 6 ?_
       refine tkB 67 7 ?_
       refine tkB 68 8 ?_
       refine tkB 69 9 ?_
       refine tkB 70 10 ?_
       refine tkB 71 11 ?_
       refine tkB 72 12 ?_
       refine tkB 73 13 ?_
       refine tkB 74 14 ?_
       refine wpAnyN_ready (rs := [2]) (by kernel_rfl) (by simp) ?_
       refine AllReadyN.held rfl (by rfl) (fun K hK => ?_) AllReadyN.nil
       go_simp
       refine hK.out _ _ ?_ (fun hHeld => ?_)
       ·exact HT1.out _ (HL.out.trans (HRl.out.trans lt_))
       clear hK K
       try simp only [Act.put, s1_, s2_, s3_]
       refine wpAnyN_ready (rs := [3]) (by kernel_rfl) (by simp) ?_
       refine AllReadyN.held rfl (by rfl) (fun K hK => ?_) AllReadyN.nil
       refine wp_append_tabx _ _ rfl rfl (HTX.out.later (HRl.out.trans lt_)) rfl (Row.later (Row.new wl 22 [.slice (some ⟨gr, 0, none⟩) n1 cr]) lt_) ((HUN.out.later lt_).weaken (by have h2 := HL.out.size; omega)) (fun u hu k hk1 hk2 => by
        have h5 := (HTX.out.tab.ratBlock hu hk1).choose_spec.lt
        have h6 := (HUN.out.lt k hk2).1
        omega) (by rw [HTX.out.ht]; have := HLN.out; omega) (by have h1 := HL.out.size; have h2 := HRl.out.size; show _ <= (wl.alloc _).heap.size; rw [World.size_alloc]; omega) ?_
       intro v5 w5 k1 k2 k3
       replace k2 : (wl.alloc (Obj.cells #[Value.slice (some ⟨gr, 0, none⟩) n1 cr] 22)).drew.grownBy w5 u4.ownBlock := k2
       obtain ⟨A5a, n5a, c5a, rfl⟩ := k1.form
       have hbl := World.ownsRow.lt HTX.out.own
       have HL5 : Later W0 w5 := Later.grown (HL.out.trans (HRl.out.trans (show Later wl (wl.alloc (Obj.cells #[Value.slice (some ⟨gr, 0, none⟩) n1 cr] 22)).drew from lt_))) k2 (fun k hk => (hbl k hk).1)
       have K1 := hide k1
       clear k1 k2 k3 hbl
       refine hK.out _ _ ?_ (fun hHeld => ?_)
       ·exact HT1.out _ (Later.trans HL5 lt_)
       clear hK K
       try simp only [Act.put, s1_, s2_, s3_]
       refine wpAnyN_ready (rs := [15]) (by kernel_rfl) (by simp) ?_
       refine AllReadyN.held rfl (by rfl) (fun K hK => ?_) AllReadyN.nil
       go_simp
       refine (rsub_calls _ _ _ a4 a3 k k (HA4.out _ (Later.trans HL5 lt_)) (HA3.out _ (Later.trans HL5 lt_)) (by omega)).mono ?_
       rintro e w10 ⟨v10, rfl, o10, b10⟩
       obtain ⟨s10, P10, q10, e10, P10', q10', e10', rfl, o10⟩ := o10.open_; have O10 := hide o10; clear o10
       have l10 : Later w5 w10 := Later.trans lt_ b10
       clear b10
       refine hK.out _ _ ?_ (fun hHeld => ?_)
       ·exact HT1.out _ (Later.trans HL5 lt_)
       clear hK K
       try simp only [Act.put, s1_, s2_, s3_]
       refine wpAnyN_ready (rs := [16]) (by kernel_rfl) (by simp) ?_
       refine AllReadyN.held rfl (by rfl) (fun K hK => ?_) AllReadyN.nil
       go_simp
       refine hK.out _ _ ?_ (fun hHeld => ?_)
       ·exact HT1.out _ (Later.trans HL5 lt_)
       clear hK K
       try simp only [Act.put, s1_, s2_, s3_]
       refine wpAnyN_ready (rs := [17]) (by kernel_rfl) (by simp) ?_
       refine AllReadyN.held rfl (by rfl) (fun K hK => ?_) AllReadyN.nil
       refine wp_append_loose _ _ rfl 0 rfl (K1.out.later (Later.trans l10 lt_)) rfl rfl rfl (Row.later (Row.new w10 36 [.bool s10, .slice P10 q10 e10, .bool false, .slice P10' q10' e10']) lt_) (OwnR.later O10.out lt_) (by rw [List.length_append, List.length_map, List.length_map]; have := HLE.out; have := HP.out.rl; omega) (by have h1 := HL5.size; have h2 := l10.size; show _ <= (w10.alloc _).heap.size; rw [World.size_alloc]; omega) ?_
       intro v12 w12 m1 m2 m3
       replace m2 : (w10.alloc (Obj.cells #[Value.bool s10, Value.slice P10 q10 e10, Value.bool false, Value.slice P10' q10' e10'] 36)).grownBy w12 u5.ownBlock := m2
       have hbx := (K1.out.x (i := 0) rfl rfl).lt
       have HL12 : Later W0 w12 := Later.grown (HL5.trans (Later.trans l10 (show Later w10 (w10.alloc (Obj.cells #[Value.bool s10, Value.slice P10 q10 e10, Value.bool false, Value.slice P10' q10' e10'] 36)) from lt_))) m2 (fun k hk => (hbx k hk).1)
       refine hK.out _ _ ?_ (fun hHeld => ?_)
       ·exact HT1.out _ (Later.trans HL12 lt_)
       clear hK K
       try simp only [Act.put, s1_, s2_, s3_]
       refine tkB 4 18 ?_
       refine tkB 5 19 ?_
       refine wpAnyN_done (by kernel_rfl) ?_ _
       have HE1 : Hid (TabX w12 W0.heap.size (.slice A5a n5a c5a) (hs ++ [.slice (some ⟨gr, 0, none⟩) n1 cr]) (P.rows.map (·.coef) ++ (endsFrom (P.opn.take (j+1)) 0).map (unitL P.cost.length)) [v12] [P.rows.map (fun r => r.rhs - dotL r.coef P.lo) ++ (endsFrom (P.opn.take (j+1)) 0).map fun i => P.hi.getD i 0 - P.lo.getD i 0]) := hide (by
        rw [HEN.out, List.map_append, List.map_append, <- List.append_assoc, <- List.append_assoc, List.map_cons, List.map_cons, List.map_nil, List.map_nil, HH4.out, HH3.out]; exact m1)
       have HE2 := hide HL12
       clear hHeld m1 m2 m3 hbx HL12 HL5 l10
       go_wp2_with fail
       exact ⟨⟨j+1, by omega, by go_num, _, HE1.out, HE2.out⟩, by simp [intOf]; omega⟩
    ·have HF : Hid (TabX wr W0.heap.size u4 hs (baseA P) [u5] [baseB P]) := hide (by
      have h1 := HTX.out
      rw [List.take_of_length_le (by have := L5.out; omega)] at h1; exact h1)
     have hj1 : ¬ (j : Int) < n5 := by omega
     obtain ⟨A4a, n4a, c4a, rfl⟩ := HF.out.form
     clear HTX
     go_wp2_with fail
     go_ret2
     exact ⟨_, _, _, _, _, rfl, HF.out.weaken hws, B0.out.trans HL.out⟩
end Go.Proofs.YtfokplidiboabaaGreat
namespace Go.Proofs.YtfokplidiboabaaGreat
open Go.RowKit Go.Shelf
attribute [local go_sem] Oper.semAt_some
theorem row_own_ {X Y : World} {row : Option Nat} {g : Nat} {t : TypeId} {cs : List Value} (h : Row X g t cs) (hg : X.grownBy Y row) (hr : ∀ r, row = some r -> ∃ o : Obj, X.heap[r]? = some o /\ o.isCells = false) : Row Y g t cs :=
 (hg.block g h.lt (fun e => by obtain ⟨o, ho, hc⟩ := hr g e.symm; rw [h] at ho; injection ho with ho; subst ho; cases hc)).trans h
theorem KpF.set {B g i : Nat} {W : World} {T : TypeId} {cs : List Value} {u : Value} (hB : B <= g) (r : Row W g T cs) (h1 : T ≠ 60) (h2 : T ≠ 26) : KpF B W (W.setCell ⟨g, i, none⟩ u) := by
 have oo := Only.one g W i u
 refine ⟨(Below.refl _ _).setCell (p := ⟨g, i, none⟩) hB u, fun b cs z e => oo.block b fun e2 => ?_⟩
 subst e2
 rcases e with e | e <;> (rw [r] at e; injection e with e; injection e with _ e _; first | exact h1 e | exact h2 e)
set_option maxHeartbeats 4000000 in
theorem pcolumns_in (w : World) (A1 A2 A3 A4 A5 : Option Addr) (n1 n2 n3 n4 n5 c1 c2 c3 c4 c5 : Nat) (k : Nat) (P : PLp) (h : LpIn w (.slice A1 n1 c1) (.slice A2 n2 c2) (.slice A3 n3 c3) (.slice A4 n4 c4) (.slice A5 n5 c5) k P) (hP : LpP P) :
 CallsIn Fence.wide 10 Tryz.prog 85 #[.agg #[.slice A1 n1 c1, .slice A2 n2 c2, .slice A3 n3 c3, .slice A4 n4 c4, .slice A5 n5 c5]] w (RetV w (.int .i64 ((P.cost.length + (extraL P).length : Nat) : Int))) := by
 have H := hide h
 have hc1 := h.cost; have hr1 := h.rows; have hl1 := h.lo; have hh1 := h.hi; have ho1 := h.opn
 have L1 := hide hc1.len_; have L2 := hide hr1.len_; have L3 := hide hl1.len_; have L4 := hide hh1.len_; have L5 := hide ho1.len_
 have hn1 : n1 <= 1000 := by have := h.cl; have := L1.out; omega
 have hn2 : n2 <= 1000 := by have := h.rl; have := L2.out; omega
 have hn3 : n3 <= 1000 := by have := h.ll; have := L3.out; omega
 have hn4 : n4 <= 1000 := by have := h.hl; have := L4.out; omega
 have hn5 : n5 <= 1000 := by have := h.ol; have := L5.out; omega
 have hkk := h.kk
 clear h hc1 hr1 hl1 hh1 ho1
 have HP := hide hP
 clear hP
 refine callsIn_of_wp_marks Tryz.func85 rfl trivial ?_ rfl
 simp only [Tryz.ntmps85, List.size_toArray, List.length_cons, List.length_nil, Nat.reduceAdd, Nat.reduceSub, Array.replicate_succ, Array.replicate_zero, List.push_toArray, List.append_toArray, List.nil_append, List.cons_append]
 gi_wp2_with (first
  | (refine ⟨trivial, ?_⟩; gi_at_call 65; refine (extra_in Fence.wide _ trivial rfl _ _ _ _ _ _ _ _ _ _ _ _ _ _ _ _).mono ?_; rintro e w2 ⟨rfl, rfl⟩)
  | (gi_at_call 65; refine (extra_in Fence.wide _ trivial rfl _ _ _ _ _ _ _ _ _ _ _ _ _ _ _ _).mono ?_; rintro e w2 ⟨rfl, rfl⟩))
 obtain ⟨W0, hW0⟩ : ∃ W0, W0 = (((w.alloc (Obj.cells #[Value.slice A1 n1 c1, Value.slice A2 n2 c2, Value.slice A3 n3 c3, Value.slice A4 n4 c4, Value.slice A5 n5 c5] 26)).alloc (Obj.cells #[Value.int .i64 (n1 : Int)] 3)).alloc (Obj.cells #[Value.slice A1 n1 c1, Value.slice A2 n2 c2, Value.slice A3 n3 c3, Value.slice A4 n4 c4, Value.slice A5 n5 c5] 26)) := ⟨_, rfl⟩
 have rs : Row W0 (w.heap.size + 1) 3 [.int .i64 (n1 : Int)] := by
  rw [hW0]
  have := Row.new (w.alloc (Obj.cells #[Value.slice A1 n1 c1, Value.slice A2 n2 c2, Value.slice A3 n3 c3, Value.slice A4 n4 c4, Value.slice A5 n5 c5] 26)) 3 [.int .i64 (n1 : Int)]
  rw [World.size_alloc] at this
  exact this.alloc _
 have rb : Row W0 (w.heap.size + 1 + 1) 26 [.slice A1 n1 c1, .slice A2 n2 c2, .slice A3 n3 c3, .slice A4 n4 c4, .slice A5 n5 c5] := by
  rw [hW0]
  have := Row.new ((w.alloc (Obj.cells #[Value.slice A1 n1 c1, Value.slice A2 n2 c2, Value.slice A3 n3 c3, Value.slice A4 n4 c4, Value.slice A5 n5 c5] 26)).alloc (Obj.cells #[Value.int .i64 (n1 : Int)] 3)) 26 [.slice A1 n1 c1, .slice A2 n2 c2, .slice A3 n3 c3, .slice A4 n4 c4, .slice A5 n5 c5]
  rw [World.size_alloc, World.size_alloc] at this
  exact this
 have hsz : W0.heap.size = w.heap.size + 3 := by rw [hW0]; simp
 have hLW : Later w W0 := by rw [hW0]; exact (((Later.refl w).alloc _).alloc _).alloc _
 rw [<- hW0]
 have hws : w.heap.size <= W0.heap.size := by omega
 clear hW0
 have hOwn : Own (fun (pre : List Ex) (W : World) => Row W (w.heap.size + 1) 3 [.int .i64 ((n1 + pre.length : Nat) : Int)]) := fun s X Y row hs hg hr => row_own_ hs hg hr
 refine range_each (α := Ex) rfl (by omega) (gf := 131) (lb := #[.pointer (some ⟨w.heap.size + 1 + 1, 0, none⟩)]) rfl trivial (enters_of Tryz.func131 (by kernel_rfl) rfl) exEnc exG (KpF w.heap.size) (fun xs => xs.map exKey = extraL P) 48
  (fun l J W hb hJ hY h0 => extra1_in (10 - 1) (by omega) l (w.heap.size + 1 + 1) _ _ _ _ _ _ _ _ _ _ _ _ _ _ _ k P HP.out w W H.out (Below.trans hLW (hb.mono hws)) (rb.later hb) J (fun pre X Y hj hs hl => hJ pre X Y none hj (Later.grownBy hl none) (fun r e => by cases e)) hY h0)
  (fun h k => h.trans k) (KpF.putObj hws) (fun _ => rfl) (fun pre W => Row W (w.heap.size + 1) 3 [.int .i64 ((n1 + pre.length : Nat) : Int)] /\ Below w.heap.size w W)
  (OwnFrom.and (hOwn.from _) (ownFrom_below (Nat.le_refl _) hws)) ⟨rs, hLW⟩ ?round ?done
 case round =>
  rintro l pre x W hl ⟨hi, hbw⟩ hx hlen
  simp only [exEnc, RCells.val]
  gi_wp2
  refine ⟨KeepsFrom.refl _ _, KpF.refl _ _, fun W2 hW2 => ?_⟩
  have r2 := hW2.row hi
  have b2 : Below w.heap.size w W2 := hW2.own (I := fun (_ : Unit) X => Below w.heap.size w X) (ownFrom_below (Nat.le_refl _) hws) (s := ()) hbw
  have c0 := r2.cell (i := 0) rfl; have f0 := r2.frozen 0
  have hw1 : IntKind.i64.wrap (((n1 + pre.length : Nat) : Int) + 1) = ((n1 + (pre ++ [x]).length : Nat) : Int) := by
   rw [List.length_append, List.length_singleton]; exact (IntWalk.i64_in _ (by omega)).trans (by omega)
  have R2 := hide r2; have B2 := hide b2
  obtain ⟨z, hz⟩ : ∃ z : Int, z = ((n1 + pre.length : Nat) : Int) := ⟨_, rfl⟩
  obtain ⟨z', hz'⟩ : ∃ z : Int, z = ((n1 + (pre ++ [x]).length : Nat) : Int) := ⟨_, rfl⟩
  rw [<- hz, <- hz'] at hw1
  rw [<- hz] at c0
  have HZ := hide hz'
  clear hi hbw r2 b2 hz hz' hx
  gi_wp2
  refine ⟨(KeepsOthers.setCell _ _ _).from _, KpF.set (by omega) R2.out (by decide) (by decide), ?_, B2.out.setCell (p := ⟨w.heap.size + 1, 0, none⟩) (by show _ <= w.heap.size + 1; omega) _⟩
  rw [<- HZ.out]
  exact R2.out.set_ 0 _
 case done =>
  rintro Dd ys W hD hS ⟨i1, hB⟩ hK
  have cs := i1.cell (i := 0) rfl
  have hl : n1 + ys.length = P.cost.length + (extraL P).length := by
   have := congrArg List.length hS
   rw [List.length_map] at this; have := L1.out; omega
  rw [hl] at cs
  obtain ⟨z, hz⟩ : ∃ z : Int, z = ((P.cost.length + (extraL P).length : Nat) : Int) := ⟨_, rfl⟩
  rw [<- hz] at cs
  have HZZ := hide hz
  have HBB := hide hB
  clear i1 hB hz hl hS
  gi_wp2
  refine ⟨by simp, .inl ⟨_, _, rfl, run_takeDeferred hK, ?_⟩⟩
  refine ⟨.int .i64 z, by simp [results, Tryz.results85], by rw [HZZ.out], ?_⟩
  exact HBB.out.trans (belowK_b (w := w) (Nat.le_refl _) W Dd _ _ (by omega) hK rfl rfl)
theorem pcolumns_calls (w : World) (A1 A2 A3 A4 A5 : Option Addr) (n1 n2 n3 n4 n5 c1 c2 c3 c4 c5 : Nat) (k : Nat) (P : PLp) (h : LpIn w (.slice A1 n1 c1) (.slice A2 n2 c2) (.slice A3 n3 c3) (.slice A4 n4 c4) (.slice A5 n5 c5) k P) (hP : LpP P) :
 Calls Tryz.prog 85 #[.agg #[.slice A1 n1 c1, .slice A2 n2 c2, .slice A3 n3 c3, .slice A4 n4 c4, .slice A5 n5 c5]] w (RetV w (.int .i64 ((P.cost.length + (extraL P).length : Nat) : Int))) :=
 callsIn_wide.1 (pcolumns_in w _ _ _ _ _ _ _ _ _ _ _ _ _ _ _ k P h hP)
end Go.Proofs.YtfokplidiboabaaGreat
