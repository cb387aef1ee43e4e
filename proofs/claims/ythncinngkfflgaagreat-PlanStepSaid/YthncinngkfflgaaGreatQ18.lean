/- Plans: what comes and goes of an item; what is there (the program). -/
import Derived.RangeFuncBox
import Derived.RangeFuncNested
import Derived.RangeFuncBound
import Derived.RangeFuncCalls
import Derived.RangeFuncLeaves
import Derived.Shelf.Abstract
import Derived.Shelf.RegionOpen
import Derived.OwnWalkIn
import Derived.TacticsInMore
import Derived.LoopNIn
import Derived.LoopIn
import Derived.Test.YthncinngkfflgaaGreatQ17
import Derived.Test.YthncinngkfflgaaGreatQ3
set_option linter.unusedVariables false
set_option linter.unusedSimpArgs false
set_option maxRecDepth 100000
namespace Go.Proofs.YthncinngkfflgaaGreat
open Go.RowKit Go.Shelf

attribute [local go_sem] Oper.semAt_some

/-- a move: its period, how many pieces -/
abbrev Mv := { p : Int × Int // (0 ≤ p.1 ∧ p.1 ≤ 1000) ∧ (-1000 ≤ p.2 ∧ p.2 ≤ 1000) }
def mvEnc (x : Mv) : Array Value := #[.int .i64 x.1.1, .int .i64 x.1.2]
/-- what is as it was but for one block, as far as B -/
def KeepBut (B gs : Nat) (W W' : World) : Prop := W.heap.size ≤ W'.heap.size ∧ ∀ b, b < B → b ≠ gs → W'.heap[b]? = W.heap[b]?
theorem KeepBut.refl (B gs : Nat) (W : World) : KeepBut B gs W W := ⟨Nat.le_refl _, fun _ _ _ => rfl⟩
theorem KeepBut.trans {B gs : Nat} {A C D : World} (h : KeepBut B gs A C) (k : KeepBut B gs C D) : KeepBut B gs A D := ⟨Nat.le_trans h.1 k.1, fun b hb hne => (k.2 b hb hne).trans (h.2 b hb hne)⟩
theorem KeepBut.alloc {B gs : Nat} {A C : World} (h : KeepBut B gs A C) (hB : B ≤ C.heap.size) (o : Obj) : KeepBut B gs A (C.alloc o) :=
  ⟨by rw [World.size_alloc]; have := h.1; omega, fun b hb hne => (Below.heap_alloc C o b (by omega)).trans (h.2 b hb hne)⟩
theorem KeepBut.putObj {B gs S : Nat} (h1 : B ≤ S) : ∀ (W : World) (l : Nat) (o o' : Obj), S ≤ l → W.heap[l]? = some o → o.isCells = false → o.isWalk = false → KeepBut B gs W (W.putObj l o') := by
  intro W l o o' hl ho _ _
  exact ⟨by simp, fun k hk _ => World.putObj_heap_other (by omega)⟩
theorem KeepBut.row {B gs g : Nat} {W W' : World} {t : TypeId} {cs : List Value} (h : KeepBut B gs W W') (r : Row W g t cs) (hg : g < B) (hne : g ≠ gs) : Row W' g t cs := (h.2 g hg hne).trans r
/-- what comes of orders, and of what was committed -/
def ordMv (item : Int) (o : POrd) (h : (0 ≤ o.due ∧ o.due ≤ 1000) ∧ (-1000 ≤ -o.qty ∧ -o.qty ≤ 1000)) : List Mv := if o.item = item then [⟨(o.due, -o.qty), h⟩] else []
def ordsMv (item : Int) : (l : List POrd) → (∀ o ∈ l, (0 ≤ o.due ∧ o.due ≤ 1000) ∧ (-1000 ≤ -o.qty ∧ -o.qty ≤ 1000)) → List Mv
  | [], _ => []
  | o :: l, h => ordMv item o (h o (List.mem_cons_self ..)) ++ ordsMv item l (fun x hx => h x (List.mem_cons_of_mem _ hx))
def mkMv (item now : Int) (x : PMk) (h : (0 ≤ x.period ∧ x.period ≤ 1000) ∧ (-1000 ≤ x.qty ∧ x.qty ≤ 1000)) : List Mv := if x.item = item ∧ x.period < now then [⟨(x.period, x.qty), h⟩] else []
def mksMv (item now : Int) : (l : List PMk) → (∀ x ∈ l, (0 ≤ x.period ∧ x.period ≤ 1000) ∧ (-1000 ≤ x.qty ∧ x.qty ≤ 1000)) → List Mv
  | [], _ => []
  | x :: l, h => mkMv item now x (h x (List.mem_cons_self ..)) ++ mksMv item now l (fun y hy => h y (List.mem_cons_of_mem _ hy))
theorem ordsMv_snoc (item : Int) (l : List POrd) (o : POrd) (h) (h1) (h2) : ordsMv item (l ++ [o]) h = ordsMv item l h1 ++ ordMv item o h2 := by
  induction l with
  | nil => simp [ordsMv]
  | cons a l ih =>
    show ordMv item a _ ++ ordsMv item (l ++ [o]) _ = _
    rw [ih (fun x hx => h x (List.mem_cons_of_mem _ hx)) (fun x hx => h1 x (List.mem_cons_of_mem _ hx)), ← List.append_assoc]; rfl
theorem mksMv_snoc (item now : Int) (l : List PMk) (o : PMk) (h) (h1) (h2) : mksMv item now (l ++ [o]) h = mksMv item now l h1 ++ mkMv item now o h2 := by
  induction l with
  | nil => simp [mksMv]
  | cons a l ih =>
    show mkMv item now a _ ++ mksMv item now (l ++ [o]) _ = _
    rw [ih (fun x hx => h x (List.mem_cons_of_mem _ hx)) (fun x hx => h1 x (List.mem_cons_of_mem _ hx)), ← List.append_assoc]; rfl
theorem ordsMv_length (item : Int) (l : List POrd) (h) : (ordsMv item l h).length ≤ l.length := by
  induction l with
  | nil => simp [ordsMv]
  | cons a l ih =>
    have := ih (fun x hx => h x (List.mem_cons_of_mem _ hx))
    show (ordMv item a _ ++ ordsMv item l _).length ≤ _
    rw [List.length_append]; unfold ordMv; split <;> simp <;> omega
theorem mksMv_length (item now : Int) (l : List PMk) (h) : (mksMv item now l h).length ≤ l.length := by
  induction l with
  | nil => simp [mksMv]
  | cons a l ih =>
    have := ih (fun x hx => h x (List.mem_cons_of_mem _ hx))
    show (mkMv item now a _ ++ mksMv item now l _).length ≤ _
    rw [List.length_append]; unfold mkMv; split <;> simp <;> omega
theorem ordsMv_congr (item : Int) {l l' : List POrd} (e : l = l') (h) (h') : ordsMv item l h = ordsMv item l' h' := by subst e; rfl
theorem mksMv_congr (item now : Int) {l l' : List PMk} (e : l = l') (h) (h') : mksMv item now l h = mksMv item now l' h' := by subst e; rfl

set_option maxHeartbeats 4000000 in
theorem moves1_in (F : Fence) (n : Nat) (hf : F.fn 126) (hro : F.round = none) (hn : 1 ≤ n) (l B gs Bb Bi : Nat) (A1 A2 A3 A4 : Option Addr) (n1 n2 n3 n4 c1 c2 c3 c4 : Nat) (D : PBook) (item : Int) (J Jx : List Mv → World → Prop)
    (hol : D.ords.length ≤ 1000) (hml : D.mks.length ≤ 1000)
    (ho : ∀ o ∈ D.ords, (0 ≤ o.due ∧ o.due ≤ 1000) ∧ (-1000 ≤ -o.qty ∧ -o.qty ≤ 1000)) (hm : ∀ x ∈ D.mks, (0 ≤ x.period ∧ x.period ≤ 1000) ∧ (-1000 ≤ x.qty ∧ x.qty ≤ 1000)) (W : World)
    (hY : ∀ pre x W1, J pre W1 → pre.length < D.ords.length + D.mks.length → YieldAt F (n - 1) Tryz.prog l (mvEnc x) W1 fun e W' => (e = .returned (.bool true) ∧ J (pre ++ [x]) W' ∧ KeepBut B gs W1 W') ∨ (e = .returned (.bool false) ∧ Jx (pre ++ [x]) W'))
    (hJa : AbidesFrom W.heap.size J) (hB : B ≤ W.heap.size)
    (hR : ∀ W', KeepBut B gs W W' → Row W' Bb 47 [.slice A1 n1 c1, .int .i64 D.hor, .int .i64 D.now, .slice A2 n2 c2, .slice A3 n3 c3, .slice A4 n4 c4] ∧ Row W' Bi 3 [.int .i64 item] ∧ Sq 4 oCells W' (.slice A3 n3 c3) D.ords ∧ Sq 3 mCells W' (.slice A4 n4 c4) D.mks) (h0 : J [] W) :
    CallsIn F n Tryz.prog 126 #[.func (.yield l) #[] #[], .pointer (some ⟨Bb, 0, none⟩), .pointer (some ⟨Bi, 0, none⟩)] W fun e W' => (∃ v, e = .returned v) ∧
      ((∃ ys, ys = ordsMv item D.ords ho ++ mksMv item D.now D.mks hm ∧ J ys W') ∨ (∃ pre, True ∧ Jx pre W')) := by
  have HR := hide hR; have HO := hide ho; have HM := hide hm; have HY := hide hY; have HJ := hide hJa
  have hl3 : n3 = D.ords.length := by
    obtain ⟨_, _, _, e, h, -⟩ := (hR W (KeepBut.refl _ _ _)).2.2.1.form
    injection e with _ e _; omega
  have hl4 : n4 = D.mks.length := by
    obtain ⟨_, _, _, e, h, -⟩ := (hR W (KeepBut.refl _ _ _)).2.2.2.form
    injection e with _ e _; omega
  have L3 := hide hl3; have L4 := hide hl4
  have hn3 : n3 ≤ 1000 := by omega
  have hn4 : n4 ≤ 1000 := by omega
  refine callsIn_of_wp Tryz.func126 rfl hf ?_ hro
  simp only [Tryz.ntmps126, List.size_toArray, List.length_cons, List.length_nil, Nat.reduceAdd, Nat.reduceSub, Array.replicate_succ, Array.replicate_zero, List.push_toArray, List.append_toArray, List.nil_append, List.cons_append]
  obtain ⟨OM, hOM⟩ : ∃ OM, OM = ordsMv item D.ords ho := ⟨_, rfl⟩
  obtain ⟨MM, hMM⟩ : ∃ MM, MM = mksMv item D.now D.mks hm := ⟨_, rfl⟩
  rw [← hOM, ← hMM]
  have HOM : Hid (OM = ordsMv item D.ords HO.out) := hide hOM
  have HMM : Hid (MM = mksMv item D.now D.mks HM.out) := hide hMM
  have r0 := (hR W (KeepBut.refl _ _ _)).1
  have d0 := r0.cell (i := 0) rfl; have d1 := r0.cell (i := 1) rfl; have d2 := r0.cell (i := 2) rfl; have d3 := r0.cell (i := 3) rfl; have d4 := r0.cell (i := 4) rfl; have d5 := r0.cell (i := 5) rfl
  clear r0 hl3 hl4 hR hOM hMM ho hm hY hJa hol hml
  gi_wp2
  clear d0 d1 d2 d3 d4 d5
  gi_loopw [11] (fun i wr => ∃ j : Nat, j ≤ n3 ∧ i = .int .i64 (j : Int) ∧ J (ordsMv item (D.ords.take j) (fun o ho => HO.out o (List.mem_of_mem_take ho))) wr ∧ KeepBut B gs W wr) (fun i _ => (n3 - intOf i).toNat)
  case atStart => exact ⟨0, by omega, rfl, h0, KeepBut.refl _ _ _⟩
  case round =>
    obtain ⟨j, hj, rfl, hJs, hK⟩ := hrel
    by_cases hlt : j < n3
    · obtain ⟨x, hx⟩ : ∃ x, D.ords[j]? = some x := ⟨D.ords[j]'(by have := L3.out; omega), List.getElem?_eq_getElem _⟩
      obtain ⟨ra, rb, rc, rd⟩ := HR.out wr hK
      obtain ⟨b1, off1, rfl, x0, x1, x2, x3⟩ := rc.at4 hx
      have y0 := (rb.alloc (Obj.cells #[Value.int .i64 x.id, Value.int .i64 x.item, Value.int .i64 x.due, Value.int .i64 x.qty] 65)).cell (i := 0) rfl
      have hxm := HO.out x (List.mem_of_getElem? hx)
      have hW2 : KeepBut B gs W (wr.alloc (Obj.cells #[Value.int .i64 x.id, Value.int .i64 x.item, Value.int .i64 x.due, Value.int .i64 x.qty] 65)) := hK.alloc (by have := hK.1; omega) _
      have hJ2 : J (ordsMv item (D.ords.take j) (fun o ho => HO.out o (List.mem_of_mem_take ho))) (wr.alloc (Obj.cells #[Value.int .i64 x.id, Value.int .i64 x.item, Value.int .i64 x.due, Value.int .i64 x.qty] 65)) := HJ.out _ _ _ none hJs (World.grownBy_alloc _ _ none) (fun r e => by cases e)
      have htk : ordsMv item (D.ords.take (j+1)) (fun o ho => HO.out o (List.mem_of_mem_take ho)) = ordsMv item (D.ords.take j) (fun o ho => HO.out o (List.mem_of_mem_take ho)) ++ ordMv item x hxm := by
        have e : D.ords.take (j+1) = D.ords.take j ++ [x] := by rw [List.take_add_one, hx]; rfl
        rw [ordsMv_congr item e _ (by rw [← e]; exact fun o ho => HO.out o (List.mem_of_mem_take ho))]
        exact ordsMv_snoc _ _ _ _ _ _
      have hq1 : IntKind.i64.wrap (-x.qty) = -x.qty := IntWalk.i64_in _ (by omega)
      by_cases g : x.item = item
      · have t1 : (x.item == item) = true := by simpa using g
        obtain ⟨fn, tmps, assign, body, hy, hR2⟩ := HY.out _ ⟨(x.due, -x.qty), hxm⟩ _ hJ2 (by have := ordsMv_length item (D.ords.take j) (fun o ho => HO.out o (List.mem_of_mem_take ho)); rw [List.length_take] at this; have := L3.out; omega)
        simp only [mvEnc] at hy
        have HTK : Hid (ordsMv item (D.ords.take (j+1)) (fun o ho => HO.out o (List.mem_of_mem_take ho)) = ordsMv item (D.ords.take j) (fun o ho => HO.out o (List.mem_of_mem_take ho)) ++ [⟨(x.due, -x.qty), hxm⟩]) := hide (by rw [htk]; unfold ordMv; rw [if_pos g])
        have HW2 := hide hW2; have HR2 := hide hR2
        clear htk hx rc rd ra rb hJs hK hW2 hJ2 hR2 g
        gi_wp2
        refine HR2.out.mono ?_
        rintro e W3 (⟨rfl, hJ3, hk3⟩ | ⟨rfl, hJx3⟩)
        · gi_wp2
          go_roundw
          case rel => exact ⟨j + 1, by omega, by go_num, by rw [HTK.out]; exact hJ3, HW2.out.trans hk3⟩
          case measure => simp [intOf]; omega
        · gi_wp2
          refine bodyPost_ret (results_none rfl _ _ _) rfl ?_
          exact ⟨⟨_, rfl⟩, .inr ⟨_, trivial, hJx3⟩⟩
      · have t1 : (x.item == item) = false := by simpa using g
        have HTK : Hid (ordsMv item (D.ords.take (j+1)) (fun o ho => HO.out o (List.mem_of_mem_take ho)) = ordsMv item (D.ords.take j) (fun o ho => HO.out o (List.mem_of_mem_take ho))) := hide (by rw [htk]; unfold ordMv; rw [if_neg g, List.append_nil])
        have HW2 := hide hW2; have HJ2 := hide hJ2
        clear htk hx rc rd ra rb hJs hK hW2 hJ2 g
        gi_wp2
        refine ⟨fun _ h => (by cases h), ?_⟩
        gi_wp2
        go_roundw
        case rel => exact ⟨j + 1, by omega, by go_num, by rw [HTK.out]; exact HJ2.out, HW2.out⟩
        case measure => simp [intOf]; omega
    · obtain ⟨ra, rb, rc, rd⟩ := HR.out wr hK
      have d0 := ra.cell (i := 0) rfl; have d1 := ra.cell (i := 1) rfl; have d2 := ra.cell (i := 2) rfl; have d3 := ra.cell (i := 3) rfl; have d4 := ra.cell (i := 4) rfl; have d5 := ra.cell (i := 5) rfl
      have HJ0 : Hid (J OM wr) := hide (by
        rw [HOM.out, ← ordsMv_congr item (show D.ords.take j = D.ords from List.take_of_length_le (by have := L3.out; omega)) (fun o ho => HO.out o (List.mem_of_mem_take ho)) HO.out]; exact hJs)
      have HK0 := hide hK
      clear hJs ra rb rc rd hK
      gi_wp2
      clear d0 d1 d2 d3 d4 d5
      gi_loopw [33] (fun i wr => ∃ j : Nat, j ≤ n4 ∧ i = .int .i64 (j : Int) ∧ J (OM ++ mksMv item D.now (D.mks.take j) (fun o ho => HM.out o (List.mem_of_mem_take ho))) wr ∧ KeepBut B gs W wr) (fun i _ => (n4 - intOf i).toNat)
      case atStart => exact ⟨0, by omega, rfl, by simpa [mksMv] using HJ0.out, HK0.out⟩
      case round =>
        clear HJ0 HK0
        obtain ⟨j, hj, rfl, hJs, hK⟩ := hrel
        by_cases hlt : j < n4
        · obtain ⟨x, hx⟩ : ∃ x, D.mks[j]? = some x := ⟨D.mks[j]'(by have := L4.out; omega), List.getElem?_eq_getElem _⟩
          obtain ⟨ra, rb, rc, rd⟩ := HR.out _ hK
          obtain ⟨b1, off1, rfl, x0, x1, x2⟩ := rd.at3 hx
          have y0 := (rb.alloc (Obj.cells #[Value.int .i64 x.item, Value.int .i64 x.period, Value.int .i64 x.qty] 67)).cell (i := 0) rfl
          have d2 := (ra.alloc (Obj.cells #[Value.int .i64 x.item, Value.int .i64 x.period, Value.int .i64 x.qty] 67)).cell (i := 2) rfl
          have hxm := HM.out x (List.mem_of_getElem? hx)
          have hW2 := hK.alloc (by have := hK.1; omega) (Obj.cells #[Value.int .i64 x.item, Value.int .i64 x.period, Value.int .i64 x.qty] 67)
          have hJ2 := HJ.out _ _ _ none hJs (World.grownBy_alloc _ (Obj.cells #[Value.int .i64 x.item, Value.int .i64 x.period, Value.int .i64 x.qty] 67) none) (fun r e => by cases e)
          have htk : mksMv item D.now (D.mks.take (j+1)) (fun o ho => HM.out o (List.mem_of_mem_take ho)) = mksMv item D.now (D.mks.take j) (fun o ho => HM.out o (List.mem_of_mem_take ho)) ++ mkMv item D.now x hxm := by
            have e : D.mks.take (j+1) = D.mks.take j ++ [x] := by rw [List.take_add_one, hx]; rfl
            rw [mksMv_congr item D.now e _ (by rw [← e]; exact fun o ho => HM.out o (List.mem_of_mem_take ho))]
            exact mksMv_snoc _ _ _ _ _ _ _
          have HW2 := hide hW2
          by_cases g : x.item = item ∧ x.period < D.now
          · have t1 : (x.item == item) = true := by simpa using g.1
            have t2 : decide (x.period < D.now) = true := by simpa using g.2
            obtain ⟨fn, tmps, assign, body, hy, hR2⟩ := HY.out _ ⟨(x.period, x.qty), hxm⟩ _ hJ2 (by have h5 := mksMv_length item D.now (D.mks.take j) (fun o ho => HM.out o (List.mem_of_mem_take ho)); rw [List.length_take] at h5; have h6 := ordsMv_length item D.ords HO.out; rw [← HOM.out] at h6; rw [List.length_append]; have := L4.out; omega)
            simp only [mvEnc] at hy
            have HTK : Hid (mksMv item D.now (D.mks.take (j+1)) (fun o ho => HM.out o (List.mem_of_mem_take ho)) = mksMv item D.now (D.mks.take j) (fun o ho => HM.out o (List.mem_of_mem_take ho)) ++ [⟨(x.period, x.qty), hxm⟩]) := hide (by rw [htk]; unfold mkMv; rw [if_pos g])
            have HR2 := hide hR2
            clear htk hx rc rd ra rb hJs hK hW2 hJ2 hR2 g
            gi_wp2
            refine HR2.out.mono ?_
            rintro e W3 (⟨rfl, hJ3, hk3⟩ | ⟨rfl, hJx3⟩)
            · gi_wp2
              go_roundw
              case rel => exact ⟨j + 1, by omega, by go_num, by rw [HTK.out, ← List.append_assoc]; exact hJ3, HW2.out.trans hk3⟩
              case measure => simp [intOf]; omega
            · gi_wp2
              refine bodyPost_ret (results_none rfl _ _ _) rfl ?_
              exact ⟨⟨_, rfl⟩, .inr ⟨_, trivial, hJx3⟩⟩
          · have HTK : Hid (mksMv item D.now (D.mks.take (j+1)) (fun o ho => HM.out o (List.mem_of_mem_take ho)) = mksMv item D.now (D.mks.take j) (fun o ho => HM.out o (List.mem_of_mem_take ho))) := hide (by rw [htk]; unfold mkMv; rw [if_neg g, List.append_nil])
            have HJ2 := hide hJ2
            by_cases g1 : x.item = item
            · have t1 : (x.item == item) = true := by simpa using g1
              have t2 : decide (x.period < D.now) = false := by
                rw [decide_eq_false_iff_not]; exact fun h => g ⟨g1, h⟩
              clear htk hx rc rd ra rb hJs hK hW2 hJ2 g g1
              gi_wp2
              refine ⟨fun _ h => (by cases h), ?_⟩
              gi_wp2
              go_roundw
              case rel => exact ⟨j + 1, by omega, by go_num, by rw [HTK.out]; exact HJ2.out, HW2.out⟩
              case measure => simp [intOf]; omega
            · have t1 : (x.item == item) = false := by simpa using g1
              clear htk hx rc rd ra rb hJs hK hW2 hJ2 g g1
              gi_wp2
              refine ⟨fun _ h => (by cases h), ?_⟩
              gi_wp2
              go_roundw
              case rel => exact ⟨j + 1, by omega, by go_num, by rw [HTK.out]; exact HJ2.out, HW2.out⟩
              case measure => simp [intOf]; omega
        · have HE : Hid (∀ wr, J (OM ++ mksMv item D.now (D.mks.take j) (fun o ho => HM.out o (List.mem_of_mem_take ho))) wr → J (OM ++ MM) wr) := hide (by
            intro wr hJs
            rw [HMM.out, ← mksMv_congr item D.now (show D.mks.take j = D.mks from List.take_of_length_le (by have := L4.out; omega)) (fun o ho => HM.out o (List.mem_of_mem_take ho)) HM.out]; exact hJs)
          have HJ3 := hide (HE.out _ hJs)
          clear hJs hK
          gi_wp2
          go_end0
          exact ⟨⟨_, rfl⟩, .inl ⟨_, rfl, HJ3.out⟩⟩

set_option maxHeartbeats 1000000 in
theorem moves_in (F : Fence) (n : Nat) (hf : F.fn 78) (hro : F.round = none) (A1 A2 A3 A4 : Option Addr) (n1 n2 n3 n4 c1 c2 c3 c4 : Nat) (D : PBook) (item : Int) (w : World) :
    CallsIn F n Tryz.prog 78 #[.agg #[.slice A1 n1 c1, .int .i64 D.hor, .int .i64 D.now, .slice A2 n2 c2, .slice A3 n3 c3, .slice A4 n4 c4], .int .i64 item] w fun e w' => e = .returned (.func (.func 126) #[] #[.pointer (some ⟨w.heap.size, 0, none⟩), .pointer (some ⟨w.heap.size + 1, 0, none⟩)]) ∧ w' = (w.alloc (.cells #[Value.slice A1 n1 c1, Value.int .i64 D.hor, Value.int .i64 D.now, Value.slice A2 n2 c2, Value.slice A3 n3 c3, Value.slice A4 n4 c4] 47)).alloc (.cells #[.int .i64 item] 3) := by
  refine callsIn_of_wp Tryz.func78 rfl hf ?_ hro
  simp only [Tryz.ntmps78, List.size_toArray, List.length_cons, List.length_nil, Nat.reduceAdd, Nat.reduceSub, Array.replicate_succ, Array.replicate_zero, List.push_toArray, List.append_toArray, List.nil_append, List.cons_append]
  gi_wp2
  go_ret
  exact ⟨by simp, rfl⟩
/-- what is there by a row of moves, ahead of a period -/
def sumMv (now : Int) (l : List Mv) : Int := sumI (l.map fun x => if x.1.1 < now then x.1.2 else 0)
theorem sumMv_snoc (now : Int) (l : List Mv) (x : Mv) : sumMv now (l ++ [x]) = sumMv now l + (if x.1.1 < now then x.1.2 else 0) := by
  unfold sumMv; rw [List.map_append, sumI_append]; simp [sumI]
theorem sumMv_bound (now : Int) (l : List Mv) : -1000 * (l.length : Int) ≤ sumMv now l ∧ sumMv now l ≤ 1000 * (l.length : Int) := by
  induction l with
  | nil => simp [sumMv, sumI]
  | cons a l ih =>
    have h1 := a.2
    have : sumMv now (a :: l) = (if a.1.1 < now then a.1.2 else 0) + sumMv now l := rfl
    rw [this, List.length_cons]
    split <;> omega
theorem sumMv_append (now : Int) (a b : List Mv) : sumMv now (a ++ b) = sumMv now a + sumMv now b := by unfold sumMv; rw [List.map_append, sumI_append]
theorem sumMv_ords (item now : Int) (l : List POrd) (h) : sumMv now (ordsMv item l h) = goneOf item now l := by
  induction l with
  | nil => rfl
  | cons o l ih =>
    have := ih (fun x hx => h x (List.mem_cons_of_mem _ hx))
    show sumMv now (ordMv item o _ ++ ordsMv item l _) = _
    rw [sumMv_append, this]
    have e : goneOf item now (o :: l) = (if o.item = item ∧ o.due < now then -o.qty else 0) + goneOf item now l := rfl
    rw [e]; congr 1
    unfold ordMv sumMv
    by_cases h1 : o.item = item
    · simp [h1, sumI]
    · simp [h1, sumI]
theorem sumMv_mks (item now : Int) (l : List PMk) (h) : sumMv now (mksMv item now l h) = cameOf item now l := by
  induction l with
  | nil => rfl
  | cons o l ih =>
    have := ih (fun x hx => h x (List.mem_cons_of_mem _ hx))
    show sumMv now (mkMv item now o _ ++ mksMv item now l _) = _
    rw [sumMv_append, this]
    have e : cameOf item now (o :: l) = (if o.item = item ∧ o.period < now then o.qty else 0) + cameOf item now l := rfl
    rw [e]; congr 1
    unfold mkMv sumMv
    by_cases h1 : o.item = item ∧ o.period < now
    · simp [h1, sumI]
    · simp [h1, sumI]
theorem ordMv_ok {D : PBook} (h : MayP D) : ∀ o ∈ D.ords, (0 ≤ o.due ∧ o.due ≤ 1000) ∧ (-1000 ≤ -o.qty ∧ -o.qty ≤ 1000) := fun o ho => by
  have := h.ords o ho; unfold POrd.okP at this; omega
theorem mkMv_ok {D : PBook} (h : MayP D) : ∀ x ∈ D.mks, (0 ≤ x.period ∧ x.period ≤ 1000) ∧ (-1000 ≤ x.qty ∧ x.qty ≤ 1000) := fun o ho => by
  have := h.mks o ho; unfold PMk.okP at this; omega
end Go.Proofs.YthncinngkfflgaaGreat

/- Plans: what comes and goes of an item; what is there (the program). -/
set_option linter.unusedVariables false
set_option linter.unusedSimpArgs false
set_option maxRecDepth 100000
namespace Go.Proofs.YthncinngkfflgaaGreat
open Go.RowKit Go.Shelf

attribute [local go_sem] Oper.semAt_some


set_option maxHeartbeats 4000000 in
theorem plthere_in (w : World) (A1 A2 A3 A4 : Option Addr) (n1 n2 n3 n4 c1 c2 c3 c4 : Nat) (D : PBook) (h : BookIn w (.slice A1 n1 c1) (.slice A2 n2 c2) (.slice A3 n3 c3) (.slice A4 n4 c4) D) (item : Int) :
    CallsIn Fence.wide 10 Tryz.prog 29 #[.agg #[.slice A1 n1 c1, .int .i64 D.hor, .int .i64 D.now, .slice A2 n2 c2, .slice A3 n3 c3, .slice A4 n4 c4], .int .i64 item] w (RetV w (.int .i64 (if 0 ≤ item ∧ item ≤ (n1 : Int) - 1 then thereV D item else 0))) := by
  have H := hide h
  obtain ⟨l1, l2, l3, l4⟩ := h.lens
  have L1 := hide l1; have L3 := hide l3; have L4 := hide l4
  obtain ⟨u0, hu0⟩ : ∃ u, (mayB D && decide (0 ≤ item ∧ item ≤ (n1 : Int) - 1)) = u := ⟨_, rfl⟩
  obtain ⟨z, hz⟩ : ∃ z, (if 0 ≤ item ∧ item ≤ (n1 : Int) - 1 then thereV D item else 0) = z := ⟨_, rfl⟩
  rw [hz]
  have HU0 := hide hu0; have HZ := hide hz
  clear h hu0 hz l1 l2 l3 l4
  cases u0 with
  | false =>
    have HF : Hid (z = 0) := hide (by
      rw [← HZ.out]
      by_cases hi : 0 ≤ item ∧ item ≤ (n1 : Int) - 1
      · rw [if_pos hi]; unfold thereV
        have h5 := HU0.out
        rw [decide_eq_true hi, Bool.and_true] at h5
        rw [if_neg (by rw [h5]; simp)]
      · rw [if_neg hi])
    refine callsIn_of_wp Tryz.func29 rfl trivial ?_ rfl
    simp only [Tryz.ntmps29, List.size_toArray, List.length_cons, List.length_nil, Nat.reduceAdd, Nat.reduceSub, Array.replicate_succ, Array.replicate_zero, List.push_toArray, List.append_toArray, List.nil_append, List.cons_append]
    gi_wp2_with (first
      | (refine ⟨trivial, ?_⟩; gi_at_call 62; refine (callsIn_wide.2 (plhas_calls _ _ _ _ _ _ _ _ _ _ _ _ _ D (H.out.later ((Later.refl w).alloc _)) item _ HU0.out)).mono ?_; rintro e w1 ⟨rfl, b1⟩)
      | (gi_at_call 62; refine (callsIn_wide.2 (plhas_calls _ _ _ _ _ _ _ _ _ _ _ _ _ D (H.out.later ((Later.refl w).alloc _)) item _ HU0.out)).mono ?_; rintro e w1 ⟨rfl, b1⟩))
    go_ret
    exact ⟨by rw [HF.out]; rfl, ((Later.refl w).alloc _).trans b1⟩
  | true =>
    have HMI : Hid (mayB D = true ∧ 0 ≤ item ∧ item ≤ (n1 : Int) - 1) := hide (by
      have h5 := HU0.out
      rw [Bool.and_eq_true, decide_eq_true_iff] at h5; exact h5)
    have HMP := hide (mayB_iff.1 HMI.out.1)
    refine callsIn_of_wp_marks Tryz.func29 rfl trivial ?_ rfl
    simp only [Tryz.ntmps29, List.size_toArray, List.length_cons, List.length_nil, Nat.reduceAdd, Nat.reduceSub, Array.replicate_succ, Array.replicate_zero, List.push_toArray, List.append_toArray, List.nil_append, List.cons_append]
    gi_wp2_with (first
      | (refine ⟨trivial, ?_⟩; gi_at_call 62; refine (callsIn_wide.2 (plhas_calls _ _ _ _ _ _ _ _ _ _ _ _ _ D (H.out.later ((Later.refl w).alloc _)) item _ HU0.out)).mono ?_; rintro e w1 ⟨rfl, b1⟩; have hr := ((Row.new w 47 [.slice A1 n1 c1, .int .i64 D.hor, .int .i64 D.now, .slice A2 n2 c2, .slice A3 n3 c3, .slice A4 n4 c4]).later b1).alloc (Obj.cells #[Value.int .i64 0] 3); have d0 := hr.cell (i := 0) rfl; have d1 := hr.cell (i := 1) rfl; have d2 := hr.cell (i := 2) rfl; have d3 := hr.cell (i := 3) rfl; have d4 := hr.cell (i := 4) rfl; have d5 := hr.cell (i := 5) rfl)
      | (gi_at_call 62; refine (callsIn_wide.2 (plhas_calls _ _ _ _ _ _ _ _ _ _ _ _ _ D (H.out.later ((Later.refl w).alloc _)) item _ HU0.out)).mono ?_; rintro e w1 ⟨rfl, b1⟩; have hr := ((Row.new w 47 [.slice A1 n1 c1, .int .i64 D.hor, .int .i64 D.now, .slice A2 n2 c2, .slice A3 n3 c3, .slice A4 n4 c4]).later b1).alloc (Obj.cells #[Value.int .i64 0] 3); have d0 := hr.cell (i := 0) rfl; have d1 := hr.cell (i := 1) rfl; have d2 := hr.cell (i := 2) rfl; have d3 := hr.cell (i := 3) rfl; have d4 := hr.cell (i := 4) rfl; have d5 := hr.cell (i := 5) rfl)
      | (refine ⟨trivial, ?_⟩; gi_at_call 78; refine (moves_in Fence.wide _ trivial rfl _ _ _ _ _ _ _ _ _ _ _ _ D item _).mono ?_; rintro e w2 ⟨rfl, rfl⟩)
      | (gi_at_call 78; refine (moves_in Fence.wide _ trivial rfl _ _ _ _ _ _ _ _ _ _ _ _ D item _).mono ?_; rintro e w2 ⟨rfl, rfl⟩))
    obtain ⟨W0, hW0⟩ : ∃ W0, W0 = (((w1.alloc (Obj.cells #[Value.int .i64 0] 3)).alloc (Obj.cells #[Value.slice A1 n1 c1, Value.int .i64 D.hor, Value.int .i64 D.now, Value.slice A2 n2 c2, Value.slice A3 n3 c3, Value.slice A4 n4 c4] 47)).alloc (Obj.cells #[Value.int .i64 item] 3)) := ⟨_, rfl⟩
    have hws : w.heap.size + 1 ≤ w1.heap.size := by have := b1.size; rw [World.size_alloc] at this; omega
    have ra : Row W0 w.heap.size 47 [.slice A1 n1 c1, .int .i64 D.hor, .int .i64 D.now, .slice A2 n2 c2, .slice A3 n3 c3, .slice A4 n4 c4] := by rw [hW0]; exact (hr.alloc _).alloc _
    have rs : Row W0 w1.heap.size 3 [.int .i64 0] := by rw [hW0]; exact ((Row.new w1 3 [.int .i64 0]).alloc _).alloc _
    have rb : Row W0 (w1.heap.size + 1) 47 [.slice A1 n1 c1, .int .i64 D.hor, .int .i64 D.now, .slice A2 n2 c2, .slice A3 n3 c3, .slice A4 n4 c4] := by
      rw [hW0]
      have := Row.new (w1.alloc (Obj.cells #[Value.int .i64 0] 3)) 47 [.slice A1 n1 c1, .int .i64 D.hor, .int .i64 D.now, .slice A2 n2 c2, .slice A3 n3 c3, .slice A4 n4 c4]
      rw [World.size_alloc] at this
      exact this.alloc _
    have ri : Row W0 (w1.heap.size + 1 + 1) 3 [.int .i64 item] := by
      rw [hW0]
      have := Row.new ((w1.alloc (Obj.cells #[Value.int .i64 0] 3)).alloc (Obj.cells #[Value.slice A1 n1 c1, Value.int .i64 D.hor, Value.int .i64 D.now, Value.slice A2 n2 c2, Value.slice A3 n3 c3, Value.slice A4 n4 c4] 47)) 3 [.int .i64 item]
      rw [World.size_alloc, World.size_alloc] at this
      exact this
    have hsz : W0.heap.size = w1.heap.size + 3 := by rw [hW0]; simp
    have hLW : Later w W0 := by rw [hW0]; exact (((((Later.refl w).alloc _).trans b1).alloc _).alloc _).alloc _
    rw [← hW0]
    clear hW0 hr d0 d1 d2 d3 d4 d5 b1
    have hbw : ∀ pre : List Mv, pre.length < D.ords.length + D.mks.length → -2000000 ≤ sumMv D.now pre ∧ sumMv D.now pre ≤ 2000000 := fun pre hp => by
      have h5 := sumMv_bound D.now pre
      have h6 := H.out.ol; have h7 := H.out.ml
      omega
    have HB := hide hbw
    clear hbw
    refine wpIn_rangeFunc_ownG (α := Mv) rfl (by omega) (gf := 126) (lb := #[.pointer (some ⟨w1.heap.size + 1, 0, none⟩), .pointer (some ⟨w1.heap.size + 1 + 1, 0, none⟩)]) rfl trivial (enters_of Tryz.func126 (by kernel_rfl) rfl)
      (encs := mvEnc) (Kp := KeepBut W0.heap.size w1.heap.size) (S := fun ys => ys = ordsMv item D.ords (ordMv_ok HMP.out) ++ mksMv item D.now D.mks (mkMv_ok HMP.out)) (Sp := fun _ => True) (N := D.ords.length + D.mks.length) (w0 := W0)
      (fun l J Jx W hW hJ hJx hY h0 => moves1_in Fence.wide (10 - 1) trivial rfl (by omega) l W0.heap.size w1.heap.size (w1.heap.size + 1) (w1.heap.size + 1 + 1) _ _ _ _ _ _ _ _ _ _ _ _ D item J Jx H.out.ol H.out.ml (ordMv_ok HMP.out) (mkMv_ok HMP.out) W hY hJ hW.size
        (fun W' hk => by
          have hrow : ∀ b, b < W0.heap.size → b ≠ w1.heap.size → W'.heap[b]? = W0.heap[b]? := fun b hb hne => (hk.2 b hb hne).trans (hW.block b hb)
          have hl : Below w.heap.size W0 W' → True := fun _ => trivial
          have hcell : ∀ (p : Addr) u, w.cell? p = some u → W'.cell? p = some u := fun p u hp => by
            have hlt := World.block_lt_of_cell? w p hp
            have h1 := Later.cell hLW hp
            exact (World.cell?_of_block (a := p) (hrow p.block (by have := hLW.size; omega) (by omega))).trans h1
          refine ⟨(hrow _ (by omega) (by omega)).trans rb, (hrow _ (by omega) (by omega)).trans ri, ?_, ?_⟩
          · obtain ⟨A, c, e, h1, h2, h3⟩ := H.out.ords
            refine ⟨A, c, e, h1, h2, fun i x hi => ?_⟩
            obtain ⟨b, off, ha, hx⟩ := h3 i x hi
            exact ⟨b, off, ha, fun j u hj => hcell _ _ (hx j u hj)⟩
          · obtain ⟨A, c, e, h1, h2, h3⟩ := H.out.mks
            refine ⟨A, c, e, h1, h2, fun i x hi => ?_⟩
            obtain ⟨b, off, ha, hx⟩ := h3 i x hi
            exact ⟨b, off, ha, fun j u hj => hcell _ _ (hx j u hj)⟩) h0)
      KeepBut.trans (KeepBut.putObj (Nat.le_refl _)) (Below.refl _ _) (fun _ => rfl)
      (fun pre W => (Row W w.heap.size 47 [.slice A1 n1 c1, .int .i64 D.hor, .int .i64 D.now, .slice A2 n2 c2, .slice A3 n3 c3, .slice A4 n4 c4] ∧ Row W w1.heap.size 3 [.int .i64 (sumMv D.now pre)]) ∧ Below w.heap.size w W)
      (fun _ _ _ => False)
      (OwnFrom.and (Own.from (fun s X Y row hs hg hr => ⟨row_own hs.1 hg hr, row_own hs.2 hg hr⟩) _) (ownFrom_below (Nat.le_refl _) hLW.size))
      (fun _ _ _ _ _ hs _ _ => hs)
      ⟨⟨ra, rs⟩, hLW⟩
      (fun x => { tmps := #[.agg #[.slice A1 n1 c1, .int .i64 D.hor, .int .i64 D.now, .slice A2 n2 c2, .slice A3 n3 c3, .slice A4 n4 c4], .int .i64 item, .pointer (some ⟨w.heap.size, 0, none⟩), undef, .int .i64 0, .pointer (some ⟨w1.heap.size, 0, none⟩), .int .i64 x.1.1, .int .i64 x.1.2, .agg #[.slice A1 n1 c1, .int .i64 D.hor, .int .i64 D.now, .slice A2 n2 c2, .slice A3 n3 c3, .slice A4 n4 c4], .int .i64 item, .bool true, .bool false, .agg #[.slice A1 n1 c1, .int .i64 D.hor, .int .i64 D.now, .slice A2 n2 c2, .slice A3 n3 c3, .slice A4 n4 c4], .int .i64 item, .func (.func 126) #[] #[.pointer (some ⟨w1.heap.size + 1, 0, none⟩), .pointer (some ⟨w1.heap.size + 1 + 1, 0, none⟩)], .int .i64 x.1.1, .int .i64 x.1.2, undef, undef, undef, undef, undef, undef, undef, undef], defers := [] }) ?assign ?body ?done ?stop
    case assign =>
      intro l x W K hK
      simp only [mvEnc]
      gi_wp2
      exact hK
    case body =>
      rintro l pre x W ⟨⟨i1, i2⟩, hB⟩ hpl
      obtain ⟨⟨p, q⟩, ⟨hp1, hp2⟩, hq1, hq2⟩ := x
      have c2 := i1.cell (i := 2) rfl
      have cs := i2.cell (i := 0) rfl
      have fs := i2.frozen 0
      obtain ⟨s, hs⟩ : ∃ s, sumMv D.now pre = s := ⟨_, rfl⟩
      have hsb := HB.out pre hpl
      rw [hs] at i2 cs hsb
      have hsn := sumMv_snoc D.now pre ⟨(p, q), ⟨hp1, hp2⟩, hq1, hq2⟩
      dsimp only at hsn
      rw [hs] at hsn
      have HSN := hide hsn
      clear hs hsn
      dsimp only at hp1 hp2 hq1 hq2 ⊢
      have hw1 : IntKind.i64.wrap (s + q) = s + q := IntWalk.i64_in _ (by omega)
      by_cases g : p < D.now
      · have t1 : decide (p < D.now) = true := by simpa using g
        have HE : Hid (sumMv D.now (pre ++ [⟨(p, q), ⟨hp1, hp2⟩, hq1, hq2⟩]) = s + q) := hide (by rw [HSN.out, if_pos g])
        have I1 := hide i1; have I2 := hide i2; have HBB := hide hB
        clear i1 i2 g hB
        gi_wp2
        refine ⟨(KeepsOthers.setCell _ _ _).from _, ⟨by simp, fun b hb hne => Below.heap_setCell _ _ _ _ hne⟩, ⟨I1.out.far (by show w.heap.size ≠ w1.heap.size; omega) _, ?_⟩, HBB.out.setCell (p := ⟨w1.heap.size, 0, none⟩) (by show _ ≤ w1.heap.size; omega) _⟩
        rw [HE.out]
        exact I2.out.set_ 0 _
      · have t1 : decide (p < D.now) = false := by simpa using g
        have HE : Hid (sumMv D.now (pre ++ [⟨(p, q), ⟨hp1, hp2⟩, hq1, hq2⟩]) = s) := hide (by rw [HSN.out, if_neg g]; omega)
        have I1 := hide i1; have I2 := hide i2; have HBB := hide hB
        clear i1 i2 g hB
        gi_wp2
        refine ⟨(KeepsOthers.refl _).from _, KeepBut.refl _ _ _, ⟨I1.out, ?_⟩, HBB.out⟩
        rw [HE.out]
        exact I2.out
    case done =>
      rintro Dd ys W hD rfl ⟨⟨i1, i2⟩, hB⟩ hK
      have cs := i2.cell (i := 0) rfl
      have HF : Hid (sumMv D.now (ordsMv item D.ords (ordMv_ok HMP.out) ++ mksMv item D.now D.mks (mkMv_ok HMP.out)) = z) := hide (by
        rw [sumMv_append, sumMv_ords, sumMv_mks, ← HZ.out, if_pos HMI.out.2]; unfold thereV; rw [if_pos HMI.out.1])
      rw [HF.out] at cs
      have HBB := hide hB
      clear i1 i2 hB
      gi_wp2
      refine ⟨by simp, .inl ⟨_, _, rfl, run_takeDeferred hK, ?_⟩⟩
      refine ⟨.int .i64 z, by simp [results, Tryz.results29], rfl, ?_⟩
      exact HBB.out.trans (belowK_b (w := w) (Nat.le_refl _) W Dd _ _ (by have := hLW.size; omega) hK rfl rfl)
    case stop =>
      rintro Dd c pre W _ _ h _
      exact h.elim

theorem plthere_calls (w : World) (A1 A2 A3 A4 : Option Addr) (n1 n2 n3 n4 c1 c2 c3 c4 : Nat) (D : PBook) (h : BookIn w (.slice A1 n1 c1) (.slice A2 n2 c2) (.slice A3 n3 c3) (.slice A4 n4 c4) D) (item : Int) :
    Calls Tryz.prog 29 #[.agg #[.slice A1 n1 c1, .int .i64 D.hor, .int .i64 D.now, .slice A2 n2 c2, .slice A3 n3 c3, .slice A4 n4 c4], .int .i64 item] w (RetV w (.int .i64 (if 0 ≤ item ∧ item ≤ (n1 : Int) - 1 then thereV D item else 0))) :=
  callsIn_wide.1 (plthere_in w _ _ _ _ _ _ _ _ _ _ _ _ D h item)
end Go.Proofs.YthncinngkfflgaaGreat

/- Plans: what is due (the program); whether a book may be (the reference). -/
set_option linter.unusedVariables false
set_option linter.unusedSimpArgs false
set_option maxRecDepth 100000
namespace Go.Proofs.YthncinngkfflgaaGreat
open Go.RowKit Go.Shelf
attribute [local go_sem ↓] Go.wp_at_zero Go.wp_at_succ

theorem dueOf_snoc (item p : Int) (l : List POrd) (o : POrd) : dueOf item p (l ++ [o]) = dueOf item p l + (if o.item = item ∧ o.due = p then o.qty else 0) := by
  unfold dueOf; rw [List.map_append, sumI_append]; simp [sumI]
theorem dueOf_bound (item p : Int) (l : List POrd) (h : ∀ o ∈ l, 0 ≤ o.qty ∧ o.qty ≤ 100) : 0 ≤ dueOf item p l ∧ dueOf item p l ≤ 100 * (l.length : Int) := by
  induction l with
  | nil => simp [dueOf, sumI]
  | cons a l ih =>
    have h1 := h a (List.mem_cons_self ..)
    have h2 := ih fun x hx => h x (List.mem_cons_of_mem _ hx)
    have : dueOf item p (a :: l) = (if a.item = item ∧ a.due = p then a.qty else 0) + dueOf item p l := rfl
    rw [this, List.length_cons]
    split <;> omega
theorem may_qty {D : PBook} (h : mayB D = true) : ∀ o ∈ D.ords, 0 ≤ o.qty ∧ o.qty ≤ 100 := fun o ho => by
  have := (mayB_iff.1 h).ords o ho; unfold POrd.okP at this; omega
theorem sumI_zero {l : List Int} (h : ∀ x ∈ l, x = 0) : sumI l = 0 := by
  induction l with
  | nil => rfl
  | cons a l ih => unfold sumI; rw [h a (List.mem_cons_self ..), ih fun x hx => h x (List.mem_cons_of_mem _ hx)]; rfl
theorem dueV_out {D : PBook} {item p : Int} (h : ¬ (mayB D = true ∧ 0 ≤ item ∧ item ≤ (D.items.length : Int) - 1)) : dueV D item p = 0 := by
  unfold dueV
  by_cases hm : mayB D = true
  · rw [if_pos hm]; refine sumI_zero fun x hx => ?_
    obtain ⟨o, ho, rfl⟩ := List.mem_map.1 hx
    have := (mayB_iff.1 hm).ords o ho; unfold POrd.okP at this
    rw [if_neg]; rintro ⟨h1, -⟩; apply h; exact ⟨hm, by omega, by omega⟩
  · rw [if_neg hm]
theorem thereV_out {D : PBook} {item : Int} (h : ¬ (0 ≤ item ∧ item ≤ (D.items.length : Int) - 1)) : thereV D item = 0 := by
  unfold thereV
  by_cases hm : mayB D = true
  · rw [if_pos hm]
    have e1 : goneOf item D.now D.ords = 0 := sumI_zero fun x hx => by
      obtain ⟨o, ho, rfl⟩ := List.mem_map.1 hx
      have := (mayB_iff.1 hm).ords o ho; unfold POrd.okP at this
      rw [if_neg]; rintro ⟨h1, -⟩; apply h; omega
    have e2 : cameOf item D.now D.mks = 0 := sumI_zero fun x hx => by
      obtain ⟨o, ho, rfl⟩ := List.mem_map.1 hx
      have := (mayB_iff.1 hm).mks o ho; unfold PMk.okP at this
      rw [if_neg]; rintro ⟨h1, -⟩; apply h; omega
    rw [e1, e2]; rfl
  · rw [if_neg hm]
theorem dueV_bound (D : PBook) (item p : Int) (hl : D.ords.length ≤ 1000) : 0 ≤ dueV D item p ∧ dueV D item p ≤ 100000 := by
  unfold dueV; split
  · rename_i hm
    have := dueOf_bound item p D.ords (may_qty hm)
    omega
  · omega

theorem plthere2_calls (w : World) (A1 A2 A3 A4 : Option Addr) (n1 n2 n3 n4 c1 c2 c3 c4 : Nat) (D : PBook) (h : BookIn w (.slice A1 n1 c1) (.slice A2 n2 c2) (.slice A3 n3 c3) (.slice A4 n4 c4) D) (item : Int) :
    Calls Tryz.prog 29 #[.agg #[.slice A1 n1 c1, .int .i64 D.hor, .int .i64 D.now, .slice A2 n2 c2, .slice A3 n3 c3, .slice A4 n4 c4], .int .i64 item] w (RetV w (.int .i64 (thereV D item))) := by
  refine (plthere_calls w _ _ _ _ _ _ _ _ _ _ _ _ D h item).mono ?_
  rintro e w1 ⟨rfl, b1⟩
  refine ⟨?_, b1⟩
  split
  · rfl
  · rename_i hi; rw [h.lens.1] at hi; rw [thereV_out hi]

set_option maxHeartbeats 4000000 in
theorem pldue_calls (w : World) (A1 A2 A3 A4 : Option Addr) (n1 n2 n3 n4 c1 c2 c3 c4 : Nat) (D : PBook) (h : BookIn w (.slice A1 n1 c1) (.slice A2 n2 c2) (.slice A3 n3 c3) (.slice A4 n4 c4) D) (item p : Int) :
    Calls Tryz.prog 31 #[.agg #[.slice A1 n1 c1, .int .i64 D.hor, .int .i64 D.now, .slice A2 n2 c2, .slice A3 n3 c3, .slice A4 n4 c4], .int .i64 item, .int .i64 p] w (RetV w (.int .i64 (dueV D item p))) := by
  have H := hide h
  obtain ⟨l1, l2, l3, l4⟩ := h.lens
  have hn3 : n3 ≤ 1000 := by have := h.ol; omega
  obtain ⟨u0, hu0⟩ : ∃ u, (mayB D && decide (0 ≤ item ∧ item ≤ (n1 : Int) - 1)) = u := ⟨_, rfl⟩
  obtain ⟨z, hz⟩ : ∃ z, dueV D item p = z := ⟨_, rfl⟩
  rw [hz]
  have HU0 := hide hu0; have HZ := hide hz; have L3 := hide l3; have L1 := hide l1
  clear h hu0 hz l1 l2 l3 l4
  obtain ⟨W0, hW0⟩ : ∃ W0, W0 = (w.alloc (Obj.cells #[Value.slice A1 n1 c1, Value.int .i64 D.hor, Value.int .i64 D.now, Value.slice A2 n2 c2, Value.slice A3 n3 c3, Value.slice A4 n4 c4] 47)) := ⟨_, rfl⟩
  obtain ⟨hb0, r0, hsz0⟩ := boxes1 w [.slice A1 n1 c1, .int .i64 D.hor, .int .i64 D.now, .slice A2 n2 c2, .slice A3 n3 c3, .slice A4 n4 c4] 47 hW0
  have B0 := hide hb0; have HW0 := hide hW0
  have R0 := hide r0
  clear hb0 hW0 hsz0 r0
  go_enter Tryz.func31, Tryz.ntmps31
  go_upto_region 1 with fail
  rw [← HW0.out]
  have r_d := R0.out.later (Later.refl W0)
  have d0 := r_d.cell (i := 0) rfl; have d1 := r_d.cell (i := 1) rfl; have d2 := r_d.cell (i := 2) rfl; have d3 := r_d.cell (i := 3) rfl; have d4 := r_d.cell (i := 4) rfl; have d5 := r_d.cell (i := 5) rfl
  clear r_d
  go_wp2_with fail
  ((with_reducible refine (plhas_calls _ _ _ _ _ _ _ _ _ _ _ _ _ D (H.out.later B0.out) item u0 HU0.out).mono ?_); rintro e w1 ⟨rfl, b1⟩)
  have HL1 := hide b1
  clear b1 d0 d1 d2 d3 d4 d5
  have r_d := R0.out.later HL1.out
  have d0 := r_d.cell (i := 0) rfl; have d1 := r_d.cell (i := 1) rfl; have d2 := r_d.cell (i := 2) rfl; have d3 := r_d.cell (i := 3) rfl; have d4 := r_d.cell (i := 4) rfl; have d5 := r_d.cell (i := 5) rfl
  clear r_d
  cases u0 with
  | false =>
    have HF : Hid (z = 0) := hide (by
      rw [← HZ.out]; refine dueV_out fun h => ?_
      have h5 := HU0.out
      rw [h.1, L1.out, Bool.true_and, decide_eq_false_iff_not] at h5
      exact h5 h.2)
    go_wp2_with fail
    go_ret
    exact ⟨by rw [HF.out]; rfl, B0.out.trans HL1.out⟩
  | true =>
  have HM : Hid (mayB D = true) := hide (by have := HU0.out; rw [Bool.and_eq_true] at this; exact this.1)
  go_wp2_with fail
  go_loopw [7, 17] (fun s i wr => ∃ j : Nat, j ≤ n3 ∧ s = .int .i64 (dueOf item p (D.ords.take j)) ∧ i = .int .i64 (j : Int) ∧ Later w1 wr) (fun _ i _ => (n3 - intOf i).toNat)
  case atStart => exact ⟨0, by omega, rfl, rfl, Later.refl _⟩
  case round =>
    obtain ⟨j, hj, rfl, rfl, hL⟩ := hrel
    by_cases hjn : j < n3
    · obtain ⟨x, hx⟩ : ∃ x, D.ords[j]? = some x := ⟨D.ords[j]'(by have := L3.out; omega), List.getElem?_eq_getElem _⟩
      obtain ⟨b1, off1, rfl, x0, x1, x2, x3⟩ := (H.out.later (B0.out.trans (HL1.out.trans hL))).ords.at4 hx
      have hj0 : (0 : Int) ≤ (j : Int) := by omega
      have hj1 : (j : Int) < n3 := by omega
      have htk := dueOf_snoc item p (D.ords.take j) x
      have e1 : D.ords.take (j+1) = D.ords.take j ++ [x] := by rw [List.take_add_one, hx]; rfl
      rw [← e1] at htk
      have hbd := dueOf_bound item p (D.ords.take j) (fun o ho => may_qty HM.out o (List.mem_of_mem_take ho))
      rw [List.length_take] at hbd
      have hqb := may_qty HM.out x (List.mem_of_getElem? hx)
      obtain ⟨s, hs⟩ : ∃ s, dueOf item p (D.ords.take j) = s := ⟨_, rfl⟩
      rw [hs] at htk hbd ⊢
      have hbd2 : 0 ≤ s ∧ s ≤ 100000 := by omega
      have HTK := hide htk; have HL := hide hL
      clear hs htk hx e1 hbd hL
      by_cases g1 : x.item = item
      · have t1 : (x.item == item) = true := by simpa using g1
        by_cases g2 : x.due = p
        · have t2 : (x.due == p) = true := by simpa using g2
          have HE : Hid (dueOf item p (D.ords.take (j+1)) = s + x.qty) := hide (by rw [HTK.out, if_pos ⟨g1, g2⟩])
          clear g1 g2
          go_wp2_with fail
          exact ⟨⟨j+1, by omega, by (rw [HE.out]), by go_num, HL.out.alloc _⟩, by simp [intOf]; omega⟩
        · have t2 : (x.due == p) = false := by simpa using g2
          have HE : Hid (dueOf item p (D.ords.take (j+1)) = s) := hide (by rw [HTK.out, if_neg (fun h => g2 h.2)]; omega)
          clear g1 g2
          go_wp2_with fail
          exact ⟨⟨j+1, by omega, by (rw [HE.out]), by go_num, HL.out.alloc _⟩, by simp [intOf]; omega⟩
      · have t1 : (x.item == item) = false := by simpa using g1
        have HE : Hid (dueOf item p (D.ords.take (j+1)) = s) := hide (by rw [HTK.out, if_neg (fun h => g1 h.1)]; omega)
        clear g1
        go_wp2_with fail
        exact ⟨⟨j+1, by omega, by (rw [HE.out]), by go_num, HL.out.alloc _⟩, by simp [intOf]; omega⟩
    · have HF : Hid (dueOf item p (D.ords.take j) = z) := hide (by
        rw [← HZ.out, List.take_of_length_le (by have := L3.out; omega)]; unfold dueV; rw [if_pos HM.out])
      rw [HF.out]
      have HL := hide hL
      clear hL
      go_wp2_with fail
      go_ret
      exact ⟨rfl, B0.out.trans (HL1.out.trans HL.out)⟩
end Go.Proofs.YthncinngkfflgaaGreat

/- Plans: whether a book may be (the reference). -/
set_option linter.unusedVariables false
set_option linter.unusedSimpArgs false
set_option maxRecDepth 100000
namespace Go.Proofs.YthncinngkfflgaaGreat
open Go.RowKit Go.Shelf
attribute [local go_sem ↓] Go.wp_at_zero Go.wp_at_succ

set_option maxHeartbeats 8000000 in
theorem rhead_calls (w : World) (A1 A2 A3 A4 : Option Addr) (n1 n2 n3 n4 c1 c2 c3 c4 : Nat) (D : PBook) (h : BookIn w (.slice A1 n1 c1) (.slice A2 n2 c2) (.slice A3 n3 c3) (.slice A4 n4 c4) D) (u : Bool) (hu : headB D = u) :
    Calls Tryz.prog 77 #[.agg #[.slice A1 n1 c1, .int .i64 D.hor, .int .i64 D.now, .slice A2 n2 c2, .slice A3 n3 c3, .slice A4 n4 c4]] w (RetV w (.bool u)) := by
  have H := hide h; have HU := hide hu
  obtain ⟨l1, l2, l3, l4⟩ := h.lens
  have L1 := hide l1; have L2 := hide l2
  have hn1 : n1 ≤ 1000 := by have := h.il; omega
  have hn2 : n2 ≤ 1000 := by have := h.cl; omega
  have HH := h.hfit; have HN := h.nfit
  unfold IFit at HH HN
  have HC := hide h.cfit
  clear h hu l1 l2 l3 l4
  obtain ⟨W0, hW0⟩ : ∃ W0, W0 = (w.alloc (Obj.cells #[Value.slice A1 n1 c1, Value.int .i64 D.hor, Value.int .i64 D.now, Value.slice A2 n2 c2, Value.slice A3 n3 c3, Value.slice A4 n4 c4] 47)) := ⟨_, rfl⟩
  obtain ⟨hb0, r0, hsz0⟩ := boxes1 w [.slice A1 n1 c1, .int .i64 D.hor, .int .i64 D.now, .slice A2 n2 c2, .slice A3 n3 c3, .slice A4 n4 c4] 47 hW0
  have B0 := hide hb0; have HW0 := hide hW0
  have R0 := hide r0
  clear hb0 hW0 hsz0 r0
  go_enter Tryz.func77, Tryz.ntmps77
  go_upto_region 1 with fail
  rw [← HW0.out]
  have r_d := R0.out.later (Later.refl W0)
  have d0 := r_d.cell (i := 0) rfl; have d1 := r_d.cell (i := 1) rfl; have d2 := r_d.cell (i := 2) rfl; have d3 := r_d.cell (i := 3) rfl; have d4 := r_d.cell (i := 4) rfl; have d5 := r_d.cell (i := 5) rfl
  clear r_d
  by_cases g0 : (n1 : Int) < 1
  · have k0 : decide ((n1 : Int) < 1) = true := by simpa using g0
    have HF : Hid (u = false) := hide (Bool.eq_false_iff.2 (fun h => by
      have h5 := headB_iff.1 (HU.out.trans h)
      have h6 := h5.n1; rw [← L1.out] at h6; omega))
    go_wp2_with fail
    go_ret
    exact ⟨by rw [HF.out]; rfl, B0.out⟩
  have k0 : decide ((n1 : Int) < 1) = false := by simpa using g0
  by_cases g1 : (3 : Int) < n1
  · have k1 : decide ((3 : Int) < n1) = true := by simpa using g1
    have HF : Hid (u = false) := hide (Bool.eq_false_iff.2 (fun h => by
      have h5 := headB_iff.1 (HU.out.trans h)
      have h6 := h5.n3; rw [← L1.out] at h6; omega))
    go_wp2_with fail
    go_ret
    exact ⟨by rw [HF.out]; rfl, B0.out⟩
  have k1 : decide ((3 : Int) < n1) = false := by simpa using g1
  by_cases g2 : D.hor < 1
  · have k2 : decide (D.hor < 1) = true := by simpa using g2
    have HF : Hid (u = false) := hide (Bool.eq_false_iff.2 (fun h => by
      have h5 := headB_iff.1 (HU.out.trans h)
      have h6 := h5.h1; have := L2.out; omega))
    go_wp2_with fail
    go_ret
    exact ⟨by rw [HF.out]; rfl, B0.out⟩
  have k2 : decide (D.hor < 1) = false := by simpa using g2
  by_cases g3 : (6 : Int) < D.hor
  · have k3 : decide ((6 : Int) < D.hor) = true := by simpa using g3
    have HF : Hid (u = false) := hide (Bool.eq_false_iff.2 (fun h => by
      have h5 := headB_iff.1 (HU.out.trans h)
      have h6 := h5.h6; rw [← L1.out] at h6
      have h7 : n1 = 1 ∨ n1 = 2 ∨ n1 = 3 := by omega
      rcases h7 with h7 | h7 | h7 <;> rw [h7] at h6 <;> omega))
    go_wp2_with fail
    go_ret
    exact ⟨by rw [HF.out]; rfl, B0.out⟩
  have k3 : decide ((6 : Int) < D.hor) = false := by simpa using g3
  have hw4 : IntKind.i64.wrap (D.hor * (n1 : Int)) = D.hor * n1 := by
    have h7 : n1 = 1 ∨ n1 = 2 ∨ n1 = 3 := by omega
    rcases h7 with rfl | rfl | rfl <;> exact IntWalk.i64_in _ (by omega)
  by_cases g4 : (6 : Int) < D.hor * n1
  · have k4 : decide ((6 : Int) < D.hor * n1) = true := by simpa using g4
    have HF : Hid (u = false) := hide (Bool.eq_false_iff.2 (fun h => by
      have h5 := headB_iff.1 (HU.out.trans h)
      have h6 := h5.h6; rw [← L1.out] at h6; omega))
    go_wp2_with fail
    go_ret
    exact ⟨by rw [HF.out]; rfl, B0.out⟩
  have k4 : decide ((6 : Int) < D.hor * n1) = false := by simpa using g4
  by_cases g5 : D.now < 0
  · have k5 : decide (D.now < 0) = true := by simpa using g5
    have HF : Hid (u = false) := hide (Bool.eq_false_iff.2 (fun h => by
      have h5 := headB_iff.1 (HU.out.trans h)
      have h6 := h5.t0; have := L2.out; omega))
    go_wp2_with fail
    go_ret
    exact ⟨by rw [HF.out]; rfl, B0.out⟩
  have k5 : decide (D.now < 0) = false := by simpa using g5
  by_cases g6 : (40 : Int) < D.now
  · have k6 : decide ((40 : Int) < D.now) = true := by simpa using g6
    have HF : Hid (u = false) := hide (Bool.eq_false_iff.2 (fun h => by
      have h5 := headB_iff.1 (HU.out.trans h)
      have h6 := h5.t40; have := L2.out; omega))
    go_wp2_with fail
    go_ret
    exact ⟨by rw [HF.out]; rfl, B0.out⟩
  have k6 : decide ((40 : Int) < D.now) = false := by simpa using g6
  by_cases g7 : (40 : Int) < n2
  · have k7 : decide ((40 : Int) < n2) = true := by simpa using g7
    have HF : Hid (u = false) := hide (Bool.eq_false_iff.2 (fun h => by
      have h5 := headB_iff.1 (HU.out.trans h)
      have h6 := h5.cl; have := L2.out; omega))
    go_wp2_with fail
    go_ret
    exact ⟨by rw [HF.out]; rfl, B0.out⟩
  have k7 : decide ((40 : Int) < n2) = false := by simpa using g7
  have GA : Hid (1 ≤ n1 ∧ n1 ≤ 3 ∧ 1 ≤ D.hor ∧ D.hor * n1 ≤ 6 ∧ 0 ≤ D.now ∧ D.now ≤ 40 ∧ n2 ≤ 40) := hide (by omega)
  clear HH HN
  have hn13 : n1 ≤ 3 := GA.out.2.1
  have hn40 : n2 ≤ 40 := GA.out.2.2.2.2.2.2
  clear g0 g1 g2 g3 g4 g5 g6 g7
  go_wp2_with fail
  clear k0 k1 k2 k3 k4 k5 k6 k7 hw4 d0 d1 d2 d3 d4 d5
  go_loopw [4] (fun i wr => ∃ j : Nat, j ≤ n1 ∧ i = .int .i64 (j : Int) ∧ Hid (∀ (i : Nat) x, i < j → D.items[i]? = some x → x.okB = true) ∧ Later W0 wr) (fun i _ => (n1 - intOf i).toNat)
  case atStart => exact ⟨0, by omega, rfl, hide fun i x hi => by omega, Later.refl _⟩
  case round =>
    obtain ⟨j, hj, rfl, hpre, hL⟩ := hrel
    by_cases hjn : j < n1
    · obtain ⟨x, hx⟩ : ∃ x, D.items[j]? = some x := ⟨D.items[j]'(by have := L1.out; omega), List.getElem?_eq_getElem _⟩
      obtain ⟨b1, off1, rfl, e1, e2, e3, x0, x1, x2, x3, x4, x5, x6, x7, x8, x9, x10, x11, m1, m2, m3⟩ := (H.out.later (B0.out.trans hL)).its.at12 hx
      have HX := hide hx; have M1 := hide m1; have M2 := hide m2; have M3 := hide m3; have HL := hide hL
      obtain ⟨u1, hu1⟩ : ∃ u, costB x.s x.sf = u := ⟨_, rfl⟩
      obtain ⟨u2, hu2⟩ : ∃ u, costB x.h x.hf = u := ⟨_, rfl⟩
      obtain ⟨u3, hu3⟩ : ∃ u, costB x.b x.bf = u := ⟨_, rfl⟩
      have HOK : Hid (x.okB = (u1 && (u2 && u3))) := hide (by unfold PItem.okB; rw [hu1, hu2, hu3])
      have U1 := hide hu1; have U2 := hide hu2; have U3 := hide hu3
      have hj0 : (0 : Int) ≤ (j : Int) := by omega
      have hj1 : (j : Int) < n1 := by omega
      clear hx m1 m2 m3 hL hu1 hu2 hu3
      have r_d := R0.out.later HL.out
      have d0 := r_d.cell (i := 0) rfl; have d1 := r_d.cell (i := 1) rfl; have d2 := r_d.cell (i := 2) rfl; have d3 := r_d.cell (i := 3) rfl; have d4 := r_d.cell (i := 4) rfl; have d5 := r_d.cell (i := 5) rfl
      clear r_d
      have HNO : Hid (x.okB = false → u = false) := hide (fun hk => Bool.eq_false_iff.2 (fun h => by
        have h5 := headB_iff.1 (HU.out.trans h)
        have h6 := h5.items x (List.mem_of_getElem? HX.out)
        rw [hk] at h6; cases h6))
      go_wp2_with fail
      ((with_reducible refine (rcost_calls wr _ x.s x.sf M1.out).mono ?_); rintro e w2 ⟨rfl, b2⟩)
      rw [U1.out]
      have HB2 := hide b2
      have x0 := Later.cell b2 x0; have x1 := Later.cell b2 x1; have x2 := Later.cell b2 x2; have x3 := Later.cell b2 x3; have x4 := Later.cell b2 x4; have x5 := Later.cell b2 x5; have x6 := Later.cell b2 x6; have x7 := Later.cell b2 x7; have x8 := Later.cell b2 x8; have x9 := Later.cell b2 x9; have x10 := Later.cell b2 x10; have x11 := Later.cell b2 x11
      clear b2 d0 d1 d2 d3 d4 d5
      have r_d := R0.out.later (HL.out.trans HB2.out)
      have d0 := r_d.cell (i := 0) rfl; have d1 := r_d.cell (i := 1) rfl; have d2 := r_d.cell (i := 2) rfl; have d3 := r_d.cell (i := 3) rfl; have d4 := r_d.cell (i := 4) rfl; have d5 := r_d.cell (i := 5) rfl
      clear r_d
      cases u1 with
      | false =>
        have HF : Hid (u = false) := hide (HNO.out (by rw [HOK.out]; rfl))
        go_wp2_with fail
        go_ret
        exact ⟨by rw [HF.out]; rfl, B0.out.trans (HL.out.trans HB2.out)⟩
      | true =>
      go_wp2_with fail
      ((with_reducible refine (rcost_calls w2 _ x.h x.hf (M2.out.later HB2.out)).mono ?_); rintro e w3 ⟨rfl, b3⟩)
      rw [U2.out]
      have HB3 := hide (HB2.out.trans b3)
      have x0 := Later.cell b3 x0; have x1 := Later.cell b3 x1; have x2 := Later.cell b3 x2; have x3 := Later.cell b3 x3; have x4 := Later.cell b3 x4; have x5 := Later.cell b3 x5; have x6 := Later.cell b3 x6; have x7 := Later.cell b3 x7; have x8 := Later.cell b3 x8; have x9 := Later.cell b3 x9; have x10 := Later.cell b3 x10; have x11 := Later.cell b3 x11
      clear b3 d0 d1 d2 d3 d4 d5
      have r_d := R0.out.later (HL.out.trans HB3.out)
      have d0 := r_d.cell (i := 0) rfl; have d1 := r_d.cell (i := 1) rfl; have d2 := r_d.cell (i := 2) rfl; have d3 := r_d.cell (i := 3) rfl; have d4 := r_d.cell (i := 4) rfl; have d5 := r_d.cell (i := 5) rfl
      clear r_d
      cases u2 with
      | false =>
        have HF : Hid (u = false) := hide (HNO.out (by rw [HOK.out]; rfl))
        go_wp2_with fail
        go_ret
        exact ⟨by rw [HF.out]; rfl, B0.out.trans (HL.out.trans HB3.out)⟩
      | true =>
      go_wp2_with fail
      ((with_reducible refine (rcost_calls w3 _ x.b x.bf (M3.out.later HB3.out)).mono ?_); rintro e w4 ⟨rfl, b4⟩)
      rw [U3.out]
      have HB4 := hide (HB3.out.trans b4)
      clear b4 d0 d1 d2 d3 d4 d5 x0 x1 x2 x3 x4 x5 x6 x7 x8 x9 x10 x11
      cases u3 with
      | false =>
        have HF : Hid (u = false) := hide (HNO.out (by rw [HOK.out]; rfl))
        go_wp2_with fail
        go_ret
        exact ⟨by rw [HF.out]; rfl, B0.out.trans (HL.out.trans HB4.out)⟩
      | true =>
        have HN : Hid (∀ (i : Nat) x, i < j + 1 → D.items[i]? = some x → x.okB = true) := hide fun i y hi hy => by
          by_cases hij : i < j
          · exact hpre.out i y hij hy
          · obtain rfl : i = j := by omega
            rw [HX.out] at hy; injection hy with hy; rw [← hy, HOK.out]; rfl
        go_wp2_with fail
        exact ⟨⟨j+1, by omega, by go_num, HN, HL.out.trans HB4.out⟩, by simp [intOf]; omega⟩
    · have HI : Hid (∀ x ∈ D.items, x.okB = true) := hide (fun x hx => by
        obtain ⟨i, hi⟩ := List.getElem?_of_mem hx
        exact hpre.out i x (by have := (List.getElem?_eq_some_iff.1 hi).1; have := L1.out; omega) hi)
      have HL := hide hL
      clear hpre hL
      have hj1 : ¬ (j : Int) < n1 := by omega
      go_wp2_with fail
      go_loopw [5] (fun i wr => ∃ j : Nat, j ≤ n2 ∧ i = .int .i64 (j : Int) ∧ Hid (∀ (i : Nat) x, i < j → D.caps[i]? = some x → 0 ≤ x ∧ x ≤ 100) ∧ Later W0 wr) (fun i _ => (n2 - intOf i).toNat)
      case atStart => exact ⟨0, by omega, rfl, hide fun i x hi => by omega, HL.out⟩
      case round =>
        clear hj1 hjn hj
        obtain ⟨k, hj, rfl, hpre, hL2⟩ := hrel
        have HL2 := hide hL2
        clear hL2
        have r_d := R0.out.later HL2.out
        have d0 := r_d.cell (i := 0) rfl; have d1 := r_d.cell (i := 1) rfl; have d2 := r_d.cell (i := 2) rfl; have d3 := r_d.cell (i := 3) rfl; have d4 := r_d.cell (i := 4) rfl; have d5 := r_d.cell (i := 5) rfl
        clear r_d
        by_cases hjn : k < n2
        · obtain ⟨x, hx⟩ : ∃ x, D.caps[k]? = some x := ⟨D.caps[k]'(by have := L2.out; omega), List.getElem?_eq_getElem _⟩
          obtain ⟨b1, off1, rfl, x0⟩ := (H.out.later (B0.out.trans HL2.out)).caps.at1 hx
          have HX := hide hx
          have hfx := HC.out x (List.mem_of_getElem? hx)
          unfold IFit at hfx
          have hj0 : (0 : Int) ≤ (k : Int) := by omega
          have hj1 : (k : Int) < n2 := by omega
          clear hx
          have HNO : Hid (¬ (0 ≤ x ∧ x ≤ 100) → u = false) := hide (fun hk => Bool.eq_false_iff.2 (fun h => hk ((headB_iff.1 (HU.out.trans h)).caps x (List.mem_of_getElem? HX.out))))
          by_cases g1 : x < 0
          · have t1 : decide (x < 0) = true := by simpa using g1
            have HF : Hid (u = false) := hide (HNO.out (by omega))
            go_wp2_with fail
            go_ret
            exact ⟨by rw [HF.out]; rfl, B0.out.trans HL2.out⟩
          · have t1 : decide (x < 0) = false := by simpa using g1
            by_cases g2 : 100 < x
            · have t2 : decide (100 < x) = true := by simpa using g2
              have HF : Hid (u = false) := hide (HNO.out (by omega))
              go_wp2_with fail
              go_ret
              exact ⟨by rw [HF.out]; rfl, B0.out.trans HL2.out⟩
            · have t2 : decide (100 < x) = false := by simpa using g2
              have HN : Hid (∀ (i : Nat) x, i < k + 1 → D.caps[i]? = some x → 0 ≤ x ∧ x ≤ 100) := hide fun i y hi hy => by
                by_cases hij : i < k
                · exact hpre.out i y hij hy
                · obtain rfl : i = k := by omega
                  rw [HX.out] at hy; injection hy with hy; rw [← hy]; omega
              clear g1 g2
              go_wp2_with fail
              exact ⟨⟨k+1, by omega, by go_num, HN, HL2.out⟩, by simp [intOf]; omega⟩
        · have hj1 : ¬ (k : Int) < n2 := by omega
          have HF : Hid (u = true) := hide (by
            rw [← HU.out, headB_iff]
            have g := GA.out
            have h1 := L1.out; have h2 := L2.out
            rw [h1] at g
            exact ⟨HI.out, fun x hx => by
              obtain ⟨i, hi⟩ := List.getElem?_of_mem hx
              exact hpre.out i x (by have := (List.getElem?_eq_some_iff.1 hi).1; omega) hi, g.1, g.2.1, g.2.2.1, g.2.2.2.1, g.2.2.2.2.1, g.2.2.2.2.2.1, by omega⟩)
          clear hpre
          go_wp2_with fail
          go_ret
          exact ⟨by rw [HF.out]; rfl, B0.out.trans HL2.out⟩
end Go.Proofs.YthncinngkfflgaaGreat
