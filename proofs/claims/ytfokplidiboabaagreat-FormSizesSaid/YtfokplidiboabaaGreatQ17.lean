/- Problems: extra (the program): the columns of rows and of ends, one by one. -/
import Derived.RangeFuncBox
import Derived.RangeFuncNested
import Derived.RangeFuncBound
import Derived.RangeFuncCalls
import Derived.RangeFuncLeaves
import Derived.Shelf.Abstract
import Derived.Shelf.RegionOpen
import Derived.OwnWalkIn
import Derived.TacticsInMore
import Derived.LoopNIn
import Derived.LoopIn
import Derived.Test.YtfokplidiboabaaGreatQ16
import Derived.Test.YtfokplidiboabaaGreatQ15
set_option linter.unusedVariables false
set_option linter.unusedSimpArgs false
set_option maxRecDepth 100000
namespace Go.Proofs.YtfokplidiboabaaGreat
open Go.RowKit Go.Shelf

attribute [local go_sem] Oper.semAt_some

/-- a column: its row, what stands there, and where that lies -/
structure Ex where
  row : Nat
  e : RCells
  q : Rat
def exEnc (x : Ex) : Array Value := #[.int .i64 (x.row : Int), x.e.val]
def exKey (x : Ex) : Nat × Rat := (x.row, x.q)
def exG (x : Ex) (W : World) : Prop := OwnR W 0 x.e.val x.q ∧ (x.q = 1 ∨ x.q = -1) ∧ x.row < 48
theorem extra_in (F : Fence) (n : Nat) (hf : F.fn 65) (hro : F.round = none) (A1 A2 A3 A4 A5 : Option Addr) (n1 n2 n3 n4 n5 c1 c2 c3 c4 c5 : Nat) (w : World) :
    CallsIn F n Tryz.prog 65 #[.agg #[.slice A1 n1 c1, .slice A2 n2 c2, .slice A3 n3 c3, .slice A4 n4 c4, .slice A5 n5 c5]] w fun e w' => e = .returned (.func (.func 131) #[] #[.pointer (some ⟨w.heap.size, 0, none⟩)]) ∧ w' = w.alloc (.cells #[Value.slice A1 n1 c1, Value.slice A2 n2 c2, Value.slice A3 n3 c3, Value.slice A4 n4 c4, Value.slice A5 n5 c5] 26) := by
  refine callsIn_of_wp Tryz.func65 rfl hf ?_ hro
  simp only [Tryz.ntmps65, List.size_toArray, List.length_cons, List.length_nil, Nat.reduceAdd, Nat.reduceSub, Array.replicate_succ, Array.replicate_zero, List.push_toArray, List.append_toArray, List.nil_append, List.cons_append]
  gi_wp2
  go_ret
  exact ⟨by simp, rfl⟩
theorem OwnR.at0_ {w : World} {B : Nat} {v : Value} {q : Rat} (h : OwnR w B v q) : OwnR w 0 v q := h.weaken (Nat.zero_le _)
/-- what is as it was, as the iterator sees it: what lies below B, and boxes of problems and of rows -/
def KpF (B : Nat) (X Y : World) : Prop := Below B X Y ∧ ∀ (b : Nat) (cs : Array Value) (z : Nat × Nat), (X.heap[b]? = some (Obj.cells cs 60 z) ∨ X.heap[b]? = some (Obj.cells cs 26 z)) → Y.heap[b]? = X.heap[b]?
theorem KpF.refl (B : Nat) (X : World) : KpF B X X := ⟨Below.refl _ _, fun _ _ _ _ => rfl⟩
theorem KpF.trans {B : Nat} {X Y Z : World} (h : KpF B X Y) (k : KpF B Y Z) : KpF B X Z := ⟨h.1.trans k.1, fun b cs z e => by
  have h1 := h.2 b cs z e
  exact (k.2 b cs z (by rw [h1]; exact e)).trans h1⟩
theorem KpF.later {B : Nat} {X Y : World} (hB : B ≤ X.heap.size) (h : Later X Y) : KpF B X Y := ⟨h.mono hB, fun b cs z e => h.block b (by rcases e with e | e <;> exact (Array.getElem?_eq_some_iff.1 e).1)⟩
theorem KpF.putObj {B S : Nat} (hB : B ≤ S) (W : World) (l : Nat) (o o' : Obj) (hl : S ≤ l) (h : W.heap[l]? = some o) (h1 : o.isCells = false) (h2 : o.isWalk = false) : KpF B W (W.putObj l o') := by
  refine ⟨⟨rfl, rfl, rfl, by simp, fun b hb => World.putObj_heap_other (by omega)⟩, fun b cs z e => World.putObj_heap_other fun e2 => ?_⟩
  subst e2
  rcases e with e | e <;> (rw [h] at e; injection e with e; subst e; cases h1)
theorem KpF.row {B : Nat} {X Y : World} (h : KpF B X Y) {g : Nat} {cs : List Value} (r : Row X g 60 cs) : Row Y g 60 cs := (h.2 g _ _ (.inl r)).trans r
theorem KpF.lp {B : Nat} {X Y : World} (h : KpF B X Y) {g : Nat} {cs : List Value} (r : Row X g 26 cs) : Row Y g 26 cs := (h.2 g _ _ (.inr r)).trans r
set_option maxHeartbeats 8000000 in
theorem extra1_in (n : Nat) (hn : 1 ≤ n) (l Bb : Nat) (A1 A2 A3 A4 A5 : Option Addr) (n1 n2 n3 n4 n5 c1 c2 c3 c4 c5 : Nat) (k : Nat) (P : PLp) (hP : LpP P) (w0 W : World) (h : LpIn w0 (.slice A1 n1 c1) (.slice A2 n2 c2) (.slice A3 n3 c3) (.slice A4 n4 c4) (.slice A5 n5 c5) k P) (hw : Later w0 W) (hbx : Row W Bb 26 [.slice A1 n1 c1, .slice A2 n2 c2, .slice A3 n3 c3, .slice A4 n4 c4, .slice A5 n5 c5]) (J : List Ex → World → Prop)
    (hJl : ∀ pre X Y, J pre X → W.heap.size ≤ X.heap.size → Later X Y → J pre Y)
    (hY : ∀ pre x W1, J pre W1 → exG x W1 → pre.length < 48 → YieldAt Fence.wide (n - 1) Tryz.prog l (exEnc x) W1 fun e W' => e = .returned (.bool true) ∧ J (pre ++ [x]) W' ∧ KpF w0.heap.size W1 W') (h0 : J [] W) :
    CallsIn Fence.wide n Tryz.prog 131 #[.func (.yield l) #[] #[], .pointer (some ⟨Bb, 0, none⟩)] W fun e W' => (∃ v, e = .returned v) ∧ ∃ xs : List Ex, xs.map exKey = extraL P ∧ J xs W' := by
  have HW := hide hw; have HY := hide hY; have HJL := hide hJl; have HP := hide hP; have H := hide h; have HBX := hide hbx
  have L2 := hide h.rows.len_; have L5 := hide h.opn.len_
  have hn2 : n2 ≤ 24 := by have := hP.rl; have := L2.out; omega
  have hn5 : n5 ≤ 24 := by have := hP.n24; have := hP.opn; have := L5.out; omega
  have hws := hw.size
  have d0 := hbx.cell (i := 0) rfl; have d1 := hbx.cell (i := 1) rfl; have d2 := hbx.cell (i := 2) rfl; have d3 := hbx.cell (i := 3) rfl; have d4 := hbx.cell (i := 4) rfl
  clear h hY hJl hP hw hbx
  refine callsIn_of_wp Tryz.func131 rfl trivial ?_ rfl
  simp only [Tryz.ntmps131, List.size_toArray, List.length_cons, List.length_nil, Nat.reduceAdd, Nat.reduceSub, Array.replicate_succ, Array.replicate_zero, List.push_toArray, List.append_toArray, List.nil_append, List.cons_append]
  gi_wp2
  clear d0 d1 d2 d3 d4
  gi_loopw [11] (fun i wr => ∃ j : Nat, j ≤ n2 ∧ i = .int .i64 (j : Int) ∧ ∃ pre : List Ex, pre.map exKey = extraR (P.rows.take j) 0 ∧ J pre wr ∧ KpF w0.heap.size W wr) (fun i _ => (n2 - intOf i).toNat)
  case atStart => exact ⟨0, by omega, rfl, [], rfl, h0, KpF.refl _ _⟩
  case round =>
    clear h0
    obtain ⟨j, hj, rfl, pre, hpk, hJ, hK⟩ := hrel
    have HJ := hide hJ; have HK := hide hK; have HPK := hide hpk
    have hlw : Later w0 wr := Below.trans HW.out hK.1
    have hsz := hK.1.size
    clear hJ hK hpk
    by_cases hlt : j < n2
    · obtain ⟨x, hx⟩ : ∃ x, P.rows[j]? = some x := ⟨P.rows[j]'(by have := L2.out; omega), List.getElem?_eq_getElem _⟩
      obtain ⟨b2, off2, rfl, r, x0, x1, x2, x3, x4, x5, he⟩ := (H.out.later hlw).rows.at6 hx
      have hsn := (HP.out.rows x (List.mem_of_getElem? hx)).2.1
      have htk : extraR (P.rows.take (j+1)) 0 = extraR (P.rows.take j) 0 ++ (senX x.sense).map (fun s => (j, s)) := by
        have hlen : (P.rows.take j).length = j := by rw [List.length_take]; have := L2.out; omega
        rw [List.take_add_one, hx, Option.toList_some, extraR_append, hlen, Nat.zero_add]
        congr 1
        rw [extraR_cons]; show _ ++ [] = _; rw [List.append_nil]
      have HTK := hide htk
      have hpl : pre.length < 48 := by
        have h1 := congrArg List.length HPK.out
        rw [List.length_map] at h1
        have h2 := extraR_len_le (P.rows.take j) 0
        rw [List.length_take] at h2; omega
      have HA := hide ((Later.refl wr).alloc (Obj.cells #[Value.slice r.A r.n r.c, Value.int .i64 x.sense, Value.bool r.e.a, Value.slice r.e.A r.e.n r.e.c, Value.bool r.e.a', Value.slice r.e.A' r.e.n' r.e.c'] 60))
      have HK2 := hide (HK.out.trans (KpF.later (by omega) HA.out))
      have HJ2 := hide (HJL.out _ _ _ HJ.out hsz HA.out)
      have HRW := hide (Row.new wr 60 [.slice r.A r.n r.c, .int .i64 x.sense, .bool r.e.a, .slice r.e.A r.e.n r.e.c, .bool r.e.a', .slice r.e.A' r.e.n' r.e.c'])
      have hs2 := HK2.out.1.size
      have y1 := HRW.out.cell (i := 1) rfl
      have hj24 : j < 48 := by omega
      clear hx htk he
      rcases (by omega : x.sense = 0 ∨ x.sense = 1 ∨ x.sense = 2) with es | es | es
      · rw [es] at HTK
        have e1 : (x.sense == 0) = true := by rw [es]; rfl
        have e2 : (x.sense == 2) = false := by rw [es]; rfl
        clear es
        gi_wp2_with (first
          | (refine ⟨trivial, ?_⟩; gi_at_call 67; refine (callsIn_wide.2 (pone_calls _)).mono ?_; rintro e w1 ⟨v1, rfl, o1, b1⟩; obtain ⟨s1, P1, q1, e1, P1', q1', e1', rfl, o1⟩ := o1.open_; have O1 := hide o1; clear o1; have HB1 := hide b1; obtain ⟨fn, tmps, assign, body, hy, hR2⟩ := HY.out pre ⟨j, ⟨s1, P1, q1, e1, false, P1', q1', e1'⟩, 1⟩ w1 (HJL.out _ _ _ HJ2.out hs2 b1) ⟨O1.out.at0_, .inl rfl, (show j < 48 by omega)⟩ hpl; simp only [exEnc, RCells.val] at hy; have HR2 := hide hR2; clear hR2; clear b1)
          | (gi_at_call 67; refine (callsIn_wide.2 (pone_calls _)).mono ?_; rintro e w1 ⟨v1, rfl, o1, b1⟩; obtain ⟨s1, P1, q1, e1, P1', q1', e1', rfl, o1⟩ := o1.open_; have O1 := hide o1; clear o1; have HB1 := hide b1; obtain ⟨fn, tmps, assign, body, hy, hR2⟩ := HY.out pre ⟨j, ⟨s1, P1, q1, e1, false, P1', q1', e1'⟩, 1⟩ w1 (HJL.out _ _ _ HJ2.out hs2 b1) ⟨O1.out.at0_, .inl rfl, (show j < 48 by omega)⟩ hpl; simp only [exEnc, RCells.val] at hy; have HR2 := hide hR2; clear hR2; clear b1))
        refine HR2.out.mono ?_
        rintro e W3 ⟨rfl, hJ3, hk3⟩
        have y3 := (hk3.row (HRW.out.later HB1.out)).cell (i := 1) rfl
        have HJ3 := hide hJ3
        have HK3 := hide (HK2.out.trans ((KpF.later (by omega) HB1.out).trans hk3))
        clear hJ3 hk3 y1
        gi_wp2
        repeat (first | (refine ⟨trivial, ?_⟩; gi_wp2) | (refine ⟨fun _ h => (by cases h), ?_⟩; gi_wp2))
        go_roundw
        case rel => exact ⟨j + 1, by omega, by go_num, _, by rw [HTK.out, List.map_append, HPK.out]; rfl, HJ3.out, HK3.out⟩
        case measure => simp [intOf]; omega
      · have e1 : (x.sense == 0) = false := by rw [es]; rfl
        have e2 : (x.sense == 2) = false := by rw [es]; rfl
        rw [es] at HTK
        clear es
        gi_wp2
        repeat (first | (refine ⟨trivial, ?_⟩; gi_wp2) | (refine ⟨fun _ h => (by cases h), ?_⟩; gi_wp2))
        go_roundw
        case rel => exact ⟨j + 1, by omega, by go_num, pre, by rw [HTK.out, HPK.out]; exact (List.append_nil _).symm, HJ2.out, HK2.out⟩
        case measure => simp [intOf]; omega
      · have e1 : (x.sense == 0) = false := by rw [es]; rfl
        have e2 : (x.sense == 2) = true := by rw [es]; rfl
        rw [es] at HTK
        clear es
        gi_wp2
        refine ⟨trivial, ?_⟩
        gi_wp2
        refine ⟨fun _ h => (by cases h), ?_⟩
        gi_wp2_with (first
          | (refine ⟨trivial, ?_⟩; gi_at_call 62; refine (callsIn_wide.2 (pzero_calls _)).mono ?_; rintro e w1 ⟨v1, rfl, o1, b1⟩; obtain ⟨s1, P1, q1, e1, P1', q1', e1', rfl, o1⟩ := o1.open_; have O1 := hide o1; clear o1; have HB1 := hide b1; clear b1)
          | (gi_at_call 62; refine (callsIn_wide.2 (pzero_calls _)).mono ?_; rintro e w1 ⟨v1, rfl, o1, b1⟩; obtain ⟨s1, P1, q1, e1, P1', q1', e1', rfl, o1⟩ := o1.open_; have O1 := hide o1; clear o1; have HB1 := hide b1; clear b1)
          | (refine ⟨trivial, ?_⟩; gi_at_call 67; refine (callsIn_wide.2 (pone_calls _)).mono ?_; rintro e w2 ⟨v2, rfl, o2, b2⟩; obtain ⟨s2, P2, q2, e2, P2', q2', e2', rfl, o2⟩ := o2.open_; have O2 := hide o2; clear o2; have HB2 := hide b2; clear b2)
          | (gi_at_call 67; refine (callsIn_wide.2 (pone_calls _)).mono ?_; rintro e w2 ⟨v2, rfl, o2, b2⟩; obtain ⟨s2, P2, q2, e2, P2', q2', e2', rfl, o2⟩ := o2.open_; have O2 := hide o2; clear o2; have HB2 := hide b2; clear b2)
          | (refine ⟨trivial, ?_⟩; gi_at_call 66; refine (callsIn_wide.2 (rsub_calls _ _ _ 0 1 1 1 (OwnR.raw (OwnR.later O1.out HB2.out) sized_0) (OwnR.raw O2.out sized_1) (by omega))).mono ?_; rintro e w3 ⟨v3, rfl, o3, b3⟩; rw [show (0 : Rat) - 1 = -1 by decide +kernel] at o3; obtain ⟨s3, P3, q3, e3, P3', q3', e3', rfl, o3⟩ := o3.open_; have O3 := hide o3; clear o3; have HB3 := hide (HB1.out.trans (HB2.out.trans b3)); clear b3; obtain ⟨fn, tmps, assign, body, hy, hR2⟩ := HY.out pre ⟨j, ⟨s3, P3, q3, e3, false, P3', q3', e3'⟩, -1⟩ w3 (HJL.out _ _ _ HJ2.out hs2 HB3.out) ⟨O3.out.at0_, .inr rfl, (show j < 48 by omega)⟩ hpl; simp only [exEnc, RCells.val] at hy; have HR2 := hide hR2; clear hR2)
          | (gi_at_call 66; refine (callsIn_wide.2 (rsub_calls _ _ _ 0 1 1 1 (OwnR.raw (OwnR.later O1.out HB2.out) sized_0) (OwnR.raw O2.out sized_1) (by omega))).mono ?_; rintro e w3 ⟨v3, rfl, o3, b3⟩; rw [show (0 : Rat) - 1 = -1 by decide +kernel] at o3; obtain ⟨s3, P3, q3, e3, P3', q3', e3', rfl, o3⟩ := o3.open_; have O3 := hide o3; clear o3; have HB3 := hide (HB1.out.trans (HB2.out.trans b3)); clear b3; obtain ⟨fn, tmps, assign, body, hy, hR2⟩ := HY.out pre ⟨j, ⟨s3, P3, q3, e3, false, P3', q3', e3'⟩, -1⟩ w3 (HJL.out _ _ _ HJ2.out hs2 HB3.out) ⟨O3.out.at0_, .inr rfl, (show j < 48 by omega)⟩ hpl; simp only [exEnc, RCells.val] at hy; have HR2 := hide hR2; clear hR2))
        refine HR2.out.mono ?_
        rintro e W3 ⟨rfl, hJ3, hk3⟩
        have HJ3 := hide hJ3
        have HK3 := hide (HK2.out.trans ((KpF.later (by omega) HB3.out).trans hk3))
        clear hJ3 hk3 y1
        gi_wp2
        repeat (first | (refine ⟨trivial, ?_⟩; gi_wp2) | (refine ⟨fun _ h => (by cases h), ?_⟩; gi_wp2))
        go_roundw
        case rel => exact ⟨j + 1, by omega, by go_num, _, by rw [HTK.out, List.map_append, HPK.out]; rfl, HJ3.out, HK3.out⟩
        case measure => simp [intOf]; omega
    · obtain ⟨PA, hPA⟩ : ∃ l, l = extraR P.rows 0 := ⟨_, rfl⟩
      have HPA := hide hPA
      have HPK2 : Hid (pre.map exKey = PA) := hide (by rw [HPK.out, hPA, List.take_of_length_le (by have := L2.out; omega)])
      have hbx := HK.out.lp HBX.out
      have d0 := hbx.cell (i := 0) rfl; have d1 := hbx.cell (i := 1) rfl; have d2 := hbx.cell (i := 2) rfl; have d3 := hbx.cell (i := 3) rfl; have d4 := hbx.cell (i := 4) rfl
      have hj1 : ¬ (j : Int) < n2 := by omega
      clear hbx hPA HPK
      gi_wp2
      clear d0 d1 d2 d3 d4
      gi_loopw [5, 47] (fun rv i wr => ∃ j : Nat, j ≤ n5 ∧ i = .int .i64 (j : Int) ∧ (∃ R : Nat, R = n2 + (endsFrom (P.opn.take j) 0).length ∧ rv = .int .i64 (R : Int)) ∧ ∃ pre : List Ex, pre.map exKey = PA ++ extraE (P.opn.take j) n2 ∧ J pre wr ∧ KpF w0.heap.size W wr) (fun _ i _ => (n5 - intOf i).toNat)
      case atStart => exact ⟨0, by omega, rfl, ⟨n2, rfl, rfl⟩, pre, by rw [HPK2.out]; exact (List.append_nil _).symm, HJ.out, HK.out⟩
      case round =>
        clear HJ HK HPK2 hlw hsz
        obtain ⟨j, hj, rfl, ⟨R, hR, rfl⟩, pre, hpk, hJ, hK⟩ := hrel
        have HJ := hide hJ; have HK := hide hK; have HPK := hide hpk; have HRR := hide hR
        have hlw : Later w0 wr := Below.trans HW.out hK.1
        have hsz := hK.1.size
        have hR48 : R ≤ 24 + j := by
          have h1 := endsFrom_len_le (P.opn.take j) 0
          rw [List.length_take] at h1
          omega
        clear hJ hK hpk hR
        by_cases hlt : j < n5
        · obtain ⟨o, ho⟩ : ∃ o, P.opn[j]? = some o := ⟨P.opn[j]'(by have := L5.out; omega), List.getElem?_eq_getElem _⟩
          obtain ⟨b5, off5, rfl, z5⟩ := (H.out.later hlw).opn.at_ ho
          have htk : P.opn.take (j+1) = P.opn.take j ++ [o] := by rw [List.take_add_one, ho]; rfl
          have hpl : pre.length < 48 := by
            have h1 := congrArg List.length HPK.out
            rw [List.length_map, List.length_append, extraE_len _ _ 0] at h1
            have h2 := extraR_len_le P.rows 0
            rw [← HPA.out, ← L2.out] at h2
            have h3 := endsFrom_len_le (P.opn.take j) 0
            rw [List.length_take] at h3; omega
          cases o with
          | true =>
            have he1 : extraE (P.opn.take (j+1)) n2 = extraE (P.opn.take j) n2 := by rw [htk, extraE_append]; exact List.append_nil _
            have he2 : (endsFrom (P.opn.take (j+1)) 0).length = (endsFrom (P.opn.take j) 0).length := by rw [htk, endsFrom_append]; simp [endsFrom]
            have HE1 := hide he1; have HE2 := hide he2
            clear ho htk he1 he2
            gi_wp2
            go_roundw
            case rel => exact ⟨j + 1, by omega, by go_num, ⟨R, by rw [HE2.out]; exact HRR.out, rfl⟩, pre, by rw [HE1.out]; exact HPK.out, HJ.out, HK.out⟩
            case measure => simp [intOf]; omega
          | false =>
            have he1 : extraE (P.opn.take (j+1)) n2 = extraE (P.opn.take j) n2 ++ [(R, 1)] := by rw [htk, extraE_append, HRR.out]; rfl
            have he2 : (endsFrom (P.opn.take (j+1)) 0).length = (endsFrom (P.opn.take j) 0).length + 1 := by rw [htk, endsFrom_append]; simp [endsFrom]
            have HE1 := hide he1; have HE2 := hide he2
            have hw1 : IntKind.i64.wrap ((R : Int) + 1) = (R : Int) + 1 := IntWalk.i64_in _ (by omega)
            have HJ2 := HJ; have hs2 := hsz
            clear ho htk he1 he2
            gi_wp2_with (first
              | (refine ⟨trivial, ?_⟩; gi_at_call 67; refine (callsIn_wide.2 (pone_calls _)).mono ?_; rintro e w1 ⟨v1, rfl, o1, b1⟩; obtain ⟨s1, P1, q1, e1, P1', q1', e1', rfl, o1⟩ := o1.open_; have O1 := hide o1; clear o1; have HB1 := hide b1; obtain ⟨fn, tmps, assign, body, hy, hR2⟩ := HY.out pre ⟨R, ⟨s1, P1, q1, e1, false, P1', q1', e1'⟩, 1⟩ w1 (HJL.out _ _ _ HJ2.out hs2 b1) ⟨O1.out.at0_, .inl rfl, (show R < 48 by omega)⟩ hpl; simp only [exEnc, RCells.val] at hy; have HR2 := hide hR2; clear hR2; clear b1)
              | (gi_at_call 67; refine (callsIn_wide.2 (pone_calls _)).mono ?_; rintro e w1 ⟨v1, rfl, o1, b1⟩; obtain ⟨s1, P1, q1, e1, P1', q1', e1', rfl, o1⟩ := o1.open_; have O1 := hide o1; clear o1; have HB1 := hide b1; obtain ⟨fn, tmps, assign, body, hy, hR2⟩ := HY.out pre ⟨R, ⟨s1, P1, q1, e1, false, P1', q1', e1'⟩, 1⟩ w1 (HJL.out _ _ _ HJ2.out hs2 b1) ⟨O1.out.at0_, .inl rfl, (show R < 48 by omega)⟩ hpl; simp only [exEnc, RCells.val] at hy; have HR2 := hide hR2; clear hR2; clear b1))
            refine HR2.out.mono ?_
            rintro e W3 ⟨rfl, hJ3, hk3⟩
            have HJ3 := hide hJ3
            have HK3 := hide (HK.out.trans ((KpF.later (by omega) HB1.out).trans hk3))
            clear hJ3 hk3
            gi_wp2
            go_roundw
            case rel => exact ⟨j + 1, by omega, by go_num, ⟨R + 1, by rw [HE2.out, HRR.out]; omega, by simp⟩, _, by rw [HE1.out, List.map_append, HPK.out, List.append_assoc]; rfl, HJ3.out, HK3.out⟩
            case measure => simp [intOf]; omega
        · have hj1 : ¬ (j : Int) < n5 := by omega
          have HF : Hid (pre.map exKey = extraL P) := hide (by
            rw [HPK.out, HPA.out, List.take_of_length_le (by have := L5.out; omega), L2.out]; rfl)
          gi_wp2
          go_end0
          exact ⟨⟨_, rfl⟩, pre, HF.out, HJ.out⟩
end Go.Proofs.YtfokplidiboabaaGreat

/- A fraction in a row of one's own is stored anew. -/
set_option linter.unusedVariables false
set_option linter.unusedSimpArgs false
set_option maxRecDepth 100000
namespace Go.Proofs.YtfokplidiboabaaGreat
open Go.RowKit Go.Shelf

def f4 (e : Bool × Value × Bool × Value) : List Value := [.bool e.1, e.2.1, .bool e.2.2.1, e.2.2.2]
theorem f4_set : ∀ (es : List (Bool × Value × Bool × Value)) (i : Nat) (e : Bool × Value × Bool × Value), i < es.length → (es.set i e).flatMap f4 = ((((es.flatMap f4).set (i * 4) (.bool e.1)).set (i * 4 + 1) e.2.1).set (i * 4 + 2) (.bool e.2.2.1)).set (i * 4 + 3) e.2.2.2
  | [], i, e, h => by simp at h
  | x :: es, 0, e, h => by
    show f4 e ++ es.flatMap f4 = _
    rw [List.flatMap_cons]; rfl
  | x :: es, i+1, e, h => by
    show f4 x ++ (es.set i e).flatMap f4 = _
    rw [f4_set es i e (by simpa using h), List.flatMap_cons]
    have e1 : (i + 1) * 4 = i * 4 + 1 + 1 + 1 + 1 := by omega
    rw [e1]
    rfl
theorem RowU.put {w : World} {lo B g cap n a i : Nat} {l : List Rat} {q : Rat} {s s' : Bool} {A A' : Option Addr} {m c m' c' : Nat} (h : RowU w lo (.slice (some ⟨g, 0, none⟩) n cap) l) (hi : i < l.length) (ha : a = i * 4) (hq : OwnR w B (.agg #[.bool s, .slice A m c, .bool s', .slice A' m' c']) q) :
    RowU ((((w.setCell ⟨g, a, none⟩ (.bool s)).setCell ⟨g, a + 1, none⟩ (.slice A m c)).setCell ⟨g, a + 2, none⟩ (.bool s')).setCell ⟨g, a + 3, none⟩ (.slice A' m' c')) lo (.slice (some ⟨g, 0, none⟩) n cap) (l.set i q) := by
  subst ha
  obtain ⟨es, h1, ⟨k1, k2⟩, h3, h4⟩ := h
  rcases k2 with ⟨e, -⟩ | ⟨g', cap', cur, e, hb, hg, hc, hmx, hs, ht⟩
  · cases e
  injection e with e1 e2 e3
  injection e1 with e1; injection e1 with e1
  subst e1 e2 e3
  obtain ⟨W, hW⟩ : ∃ W, W = ((((w.setCell ⟨g, i * 4, none⟩ (.bool s)).setCell ⟨g, i * 4 + 1, none⟩ (.slice A m c)).setCell ⟨g, i * 4 + 2, none⟩ (.bool s')).setCell ⟨g, i * 4 + 3, none⟩ (.slice A' m' c')) := ⟨_, rfl⟩
  have r0 : Row w g 36 cur.toList := hg
  have r1 := (((r0.set_ (i * 4) (.bool s)).set_ (i * 4 + 1) (.slice A m c)).set_ (i * 4 + 2) (.bool s')).set_ (i * 4 + 3) (.slice A' m' c')
  have oo : Only g w W := by rw [hW]; exact (((Only.one g w _ _).set _ _).set _ _).set _ _
  rw [← hW] at r1 ⊢
  clear hW
  have hk : KeepU w W := KeepU.only oo r0 tRat_u32
  refine ⟨es.set i (s, .slice A m c, s', .slice A' m' c'), by rw [List.length_set, List.length_set]; exact h1, ⟨?_, .inr ⟨g, cap, ((((cur.toList.set (i * 4) (.bool s)).set (i * 4 + 1) (.slice A m c)).set (i * 4 + 2) (.bool s')).set (i * 4 + 3) (.slice A' m' c')).toArray, by rw [List.length_set], hb, r1, by rw [List.length_set]; exact hc, hmx, ?_, ?_⟩⟩, ?_, ?_⟩
  · have := f4_set es i (s, .slice A m c, s', .slice A' m' c') (by omega)
    show ((es.set i (s, Value.slice A m c, s', Value.slice A' m' c')).flatMap f4).length = _
    rw [this, List.length_set, List.length_set, List.length_set, List.length_set, List.length_set]; exact k1
  · simpa using hs
  · have := f4_set es i (s, .slice A m c, s', .slice A' m' c') (by omega)
    show List.take _ _ = (es.set i (s, Value.slice A m c, s', Value.slice A' m' c')).flatMap f4
    rw [this, List.length_set]
    simp only [List.toList_toArray, List.take_set, ht]
    rfl
  · intro e he
    rcases List.mem_or_eq_of_mem_set he with he | rfl
    · exact h3 e he
    · exact ⟨⟨_, _, _, rfl⟩, ⟨_, _, _, rfl⟩⟩
  · have hq2 : On w (fun b => U32B w b ∧ some b ≠ (Value.slice (some ⟨g, 0, none⟩) l.length cap).ownBlock) (fun W => OwnR W 0 (.agg #[.bool s, .slice A m c, .bool s', .slice A' m' c']) q) :=
      hq.onU.mono fun b hb _ => ⟨hb, fun e => by injection e with e; exact hb.ne r0 tRat_u32 e⟩
    have h5 := (h4.and hq2).map (T' := fun W => ∀ (j : Nat) (e : Bool × Value × Bool × Value) (x : Rat), (es.set i (s, .slice A m c, s', .slice A' m' c'))[j]? = some e → (l.set i q)[j]? = some x → EOwn W (.agg #[.bool e.1, e.2.1, .bool e.2.2.1, e.2.2.2]) x) fun W hW j e x he hx => by
      by_cases hj : j = i
      · subst hj
        rw [List.getElem?_set_self (by omega)] at he
        rw [List.getElem?_set_self hi] at hx
        injection he with he; injection hx with hx
        subst he hx; exact hW.2
      · rw [List.getElem?_set_ne (Ne.symm hj)] at he hx
        exact hW.1 j e x he hx
    obtain ⟨F, f1, f2⟩ := h5
    exact ⟨F, fun b hb => ⟨⟨(f1 b hb).1.1.of_eq (hk.2 b (f1 b hb).1.1), (f1 b hb).1.2⟩, Nat.lt_of_lt_of_le (f1 b hb).2 hk.1⟩, fun X hX => f2 X fun b hb => (hX b hb).trans (hk.2 b (f1 b hb).1.1)⟩
end Go.Proofs.YtfokplidiboabaaGreat
