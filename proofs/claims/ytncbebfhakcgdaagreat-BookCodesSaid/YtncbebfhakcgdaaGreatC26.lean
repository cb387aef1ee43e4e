/- Books: an operation as bytes (the program). -/
import Derived.Test.YtncbebfhakcgdaaGreatC25
set_option linter.unusedVariables false
set_option linter.unusedSimpArgs false
set_option maxRecDepth 100000
namespace Go.Proofs.YtncbebfhakcgdaaGreat
open Go.RowKit Go.Shelf
attribute [local go_sem ↓] Go.wp_at_zero Go.wp_at_succ
def uCells (z : Int) : List Value := [.int .u8 z]
theorem uCells_len (z : Int) : (uCells z).length = 1 := rfl
theorem uCells_one (z : Int) : ∀ u ∈ uCells z, u.oneCell' = true := by intro u hu; simp [uCells] at hu; subst hu; rfl
theorem info_u8 : (Tryz.prog.info? 5).map (fun i => (i.zero, i.size, i.bytes)) = some (some (.int .u8 0), 1, 1) := by kernel_rfl
def OutB (lo : Nat) (w : World) (v : Value) (l : List Int) : Prop := w.ownsRow lo 5 1 v l.length (l.flatMap uCells)
theorem OutB.snoc {lo : Nat} {w : World} {v : Value} {l : List Int} {x y : Int} (h : w.ownsRow lo 5 1 v (l.length + 1) (l.flatMap uCells ++ [.int .u8 x])) (e : x = y) : OutB lo w v (l ++ [y]) := by
 subst e
 unfold OutB
 rw [List.length_append, List.length_singleton, List.flatMap_append]; exact h
def encT (o : POp) (l : List Int) : Nat -> List Int
 | 0 => [o.kind]
 | j + 1 => (encT o l j ++ num4 (l.getD j 0)) ++ (if o.kind = 5 /\ j = 0 then [(o.qtys.length : Int)] else [])
theorem encT_len (o : POp) (l : List Int) : ∀ j, (encT o l j).length <= 1 + 5 * j
 | 0 => by simp [encT]
 | j + 1 => by
   have := encT_len o l j
   unfold encT
   rw [List.length_append, List.length_append, num4_len]
   split <;> simp <;> omega
theorem encT_tail (o : POp) (l : List Int) : ∀ j, 1 <= j -> j <= l.length -> encT o l j = encT o l 1 ++ ((l.take j).drop 1).flatMap num4 := by
 intro j h1 h2
 induction j with
 | zero => omega
 | succ j ih =>
   by_cases hj : j = 0
   ·subst hj
    rw [show (l.take (0+1)).drop 1 = [] from List.drop_eq_nil_of_le (by rw [List.length_take]; omega)]; simp
   ·have e := ih (by omega) (by omega)
    show (encT o l j ++ num4 (l.getD j 0)) ++ (if o.kind = 5 /\ j = 0 then _ else _) = _
    rw [if_neg (fun h => hj h.2), List.append_nil, e, List.append_assoc]
    congr 1
    have hl : l[j]? = some (l[j]'(by omega)) := List.getElem?_eq_getElem _
    rw [List.take_add_one, hl, List.drop_append_of_le_length (by rw [List.length_take]; omega), List.flatMap_append, List.getD_eq_getElem?_getD, hl]
    simp
theorem encT_all {o : POp} (h : plainB o = true) : encT o (numsOf o) (numsOf o).length = encB o := by
 have hk := (plainB_bare o).1 h
 unfold encB
 by_cases k5 : o.kind = 5
 ·rw [if_pos k5]
  have e : numsOf o = o.period :: o.qtys := by unfold numsOf; rw [if_neg (by omega), if_neg (by omega), if_neg (by omega), if_pos k5]
  rw [e, encT_tail o _ _ (by simp) (Nat.le_refl _), List.take_of_length_le (Nat.le_refl _)]
  show ((([o.kind] ++ num4 o.period) ++ (if o.kind = 5 /\ 0 = 0 then [(o.qtys.length : Int)] else [])) ++ o.qtys.flatMap num4) = _
  rw [if_pos ⟨k5, rfl⟩, k5]; simp
 ·rw [if_neg k5]
  have e : ∀ (l : List Int) j, j <= l.length -> encT o l j = o.kind :: (l.take j).flatMap num4 := by
   intro l j
   induction j with
   | zero => intro _; simp [encT]
   | succ j ih =>
     intro hj
     show (encT o l j ++ num4 (l.getD j 0)) ++ (if o.kind = 5 /\ j = 0 then _ else _) = _
     have hl : l[j]? = some (l[j]'(by omega)) := List.getElem?_eq_getElem _
     rw [if_neg (fun h => k5 h.1), List.append_nil, ih (by omega), List.take_add_one, hl, List.flatMap_append, List.getD_eq_getElem?_getD, hl]
     simp
  rw [e _ _ (Nat.le_refl _), List.take_of_length_le (Nat.le_refl _)]
def EncP (w : World) (x : Option (List Int)) (e : Ending) (w' : World) : Prop := Later w w' /\ match x with
 | some l => ∃ A n c, e = .returned (.tuple #[.slice A n c, .int .i64 0]) /\ OutB w.heap.size w' (.slice A n c) l
 | none => e = .returned (.tuple #[.slice none 0 0, .int .i64 1])
theorem encbad_calls (w : World) (n : Int) :
 Calls Tryz.prog 47 #[.int .i64 n] w (RetV w (.bool (decide (n < 0 ∨ 2147483647 < n)))) := by
 by_cases h1 : n < 0
 ·have t1 : decide (n < 0) = true := by simpa using h1
  have t2 : decide (n < 0 ∨ 2147483647 < n) = true := by simpa using Or.inl h1
  go_enter Tryz.func47, Tryz.ntmps47
  go_wp2_with fail
  go_ret
  exact ⟨by first | (rw [t2]; rfl) | (simp [t2]; done) | (rw [t2]), Later.refl w⟩
 ·have t1 : decide (n < 0) = false := by simpa using h1
  obtain ⟨u, hu⟩ : ∃ u, decide (2147483647 < n) = u := ⟨_, rfl⟩
  have t2 : decide (n < 0 ∨ 2147483647 < n) = u := by rw [<- hu]; simp [h1]
  rw [t2]
  clear t2
  go_enter Tryz.func47, Tryz.ntmps47
  go_wp2_with fail
  go_ret
  exact ⟨by first | rfl | (rw [hu]; rfl) | (simp [hu]; done), Later.refl w⟩
set_option maxHeartbeats 4000000 in
theorem encode_calls (w : World) (Aq : Option Addr) (nq cq : Nat) (o : POp) (hQ : Sq 1 iCells w (.slice Aq nq cq) o.qtys) (hz : Aq = none -> cq = 0) (hql : o.qtys.length <= 1000) :
 Calls Tryz.prog 18 #[.agg #[.int .i64 o.kind, .int .i64 o.ord.id, .int .i64 o.ord.item, .int .i64 o.ord.due, .int .i64 o.ord.qty, .int .i64 o.id, .int .i64 o.period, .int .i64 o.qty, .slice Aq nq cq]] w (EncP w (encV o)) := by
 have hnq : nq = o.qtys.length := by
  obtain ⟨_, _, _, e, e2, -⟩ := hQ.form
  injection e with _ e3 _; omega
 have HNQ := hide hnq; have HQ := hide hQ; have HZ := hide hz; have HQL := hide hql
 obtain ⟨up, hup⟩ : ∃ u, plainB o = u := ⟨_, rfl⟩
 have HPL : Hid (∀ W : World, Calls Tryz.prog 31 #[.agg #[.int .i64 o.kind, .int .i64 o.ord.id, .int .i64 o.ord.item, .int .i64 o.ord.due, .int .i64 o.ord.qty, .int .i64 o.id, .int .i64 o.period, .int .i64 o.qty, .slice Aq nq cq]] W (RetV W (.bool up))) := hide fun W => by have h := bplain_calls W Aq nq cq o HNQ.out; rw [hup] at h; exact h
 have HUP := hide hup
 obtain ⟨ub, hub⟩ : ∃ u, (numsOf o).any (fun n => decide (n < 0 ∨ 2147483647 < n)) = u := ⟨_, rfl⟩
 have HUB := hide hub
 have HNL : Hid ((numsOf o).length <= 1004) := hide (by unfold numsOf; split; simp; split; simp; split; simp; split; simp; omega; simp)
 clear hQ hz hql hnq hup hub
 obtain ⟨W0, hW0⟩ : ∃ W0, W0 = (w.alloc (Obj.cells #[Value.int .i64 o.kind, Value.int .i64 o.ord.id, Value.int .i64 o.ord.item, Value.int .i64 o.ord.due, Value.int .i64 o.ord.qty, Value.int .i64 o.id, Value.int .i64 o.period, Value.int .i64 o.qty, Value.slice Aq nq cq] 31)) := ⟨_, rfl⟩
 have B0 := hide (show Later w W0 by rw [hW0]; exact (Later.refl _).alloc _)
 have HR0 := hide (show Row W0 w.heap.size 31 [.int .i64 o.kind, .int .i64 o.ord.id, .int .i64 o.ord.item, .int .i64 o.ord.due, .int .i64 o.ord.qty, .int .i64 o.id, .int .i64 o.period, .int .i64 o.qty, .slice Aq nq cq] by rw [hW0]; exact Row.new _ _ _)
 have HW0 := hide hW0
 clear hW0
 go_enter Tryz.func18, Tryz.ntmps18
 go_upto_region 1 with fail
 rw [<- HW0.out]
 have x0 := HR0.out.cell (i := 0) rfl; have x1 := HR0.out.cell (i := 1) rfl; have x2 := HR0.out.cell (i := 2) rfl; have x3 := HR0.out.cell (i := 3) rfl; have x4 := HR0.out.cell (i := 4) rfl; have x5 := HR0.out.cell (i := 5) rfl; have x6 := HR0.out.cell (i := 6) rfl; have x7 := HR0.out.cell (i := 7) rfl; have x8 := HR0.out.cell (i := 8) rfl
 go_upto_region 2 with (go_at_call 45; (with_reducible refine (numbers_calls _ Aq nq cq o (HQ.out.later B0.out) HZ.out HQL.out).mono ?_); rintro e w1 ⟨A4, n4, c4, rfl, o4, b1⟩)
 have HL1 := hide b1; have HB1 := hide (B0.out.trans b1)
 have HO4 := hide (Sq.of_own iCells_ln o4)
 have hn4 : n4 = (numsOf o).length := (own_len3 o4).1
 have HN4 := hide hn4
 have h4b : n4 <= 1004 := by have := HNL.out; omega
 clear x0 x1 x2 x3 x4 x5 x6 x7 x8 b1 o4 hn4
 have rr := HR0.out.later HL1.out
 have x0 := rr.cell (i := 0) rfl; have x1 := rr.cell (i := 1) rfl; have x2 := rr.cell (i := 2) rfl; have x3 := rr.cell (i := 3) rfl; have x4 := rr.cell (i := 4) rfl; have x5 := rr.cell (i := 5) rfl; have x6 := rr.cell (i := 6) rfl; have x7 := rr.cell (i := 7) rfl; have x8 := rr.cell (i := 8) rfl
 clear rr
 have hmf := mkF
 cases up with
 | false =>
   have HV : Hid (encV o = none) := hide (by unfold encV; rw [if_neg (fun h => by have h2 := (encOk_iff.1 h).1; rw [HUP.out] at h2; cases h2)])
   go_wp2_with (go_at_call 31; (refine (HPL.out _).mono ?_); rintro e w2 ⟨rfl, b2⟩; have rr := HR0.out.later (HL1.out.trans b2); have x8' := rr.cell (i := 8) rfl; clear rr)
   go_ret2
   exact ⟨HB1.out.trans b2, by rw [HV.out]; rfl⟩
 | true =>
   by_cases g3 : 3 < nq
   ·have t3 : decide ((3 : Int) < (nq : Int)) = true := by simp; omega
    have HV : Hid (encV o = none) := hide (by unfold encV; rw [if_neg (fun h => by have h2 := (encOk_iff.1 h).2.1; have := HNQ.out; omega)])
    go_wp2_with (go_at_call 31; (refine (HPL.out _).mono ?_); rintro e w2 ⟨rfl, b2⟩; have rr := HR0.out.later (HL1.out.trans b2); have x8' := rr.cell (i := 8) rfl; clear rr)
    go_ret2
    exact ⟨HB1.out.trans b2, by rw [HV.out]; rfl⟩
   ·have t3 : decide ((3 : Int) < (nq : Int)) = false := by simp; omega
    cases ub with
    | true =>
      have HV : Hid (encV o = none) := hide (by unfold encV; rw [if_neg (fun h => by obtain ⟨n, hn, e⟩ := List.any_eq_true.1 HUB.out; have h2 := (encOk_iff.1 h).2.2 n hn; simp only [decide_eq_true_iff] at e; omega)])
      go_wp2_with (first | (go_at_call 31; (refine (HPL.out _).mono ?_); rintro e w2 ⟨rfl, b2⟩; have rr := HR0.out.later (HL1.out.trans b2); have x8' := rr.cell (i := 8) rfl; clear rr) | (go_at_call 46; (with_reducible refine (contI0_calls _ _ (numsOf o) (HO4.out.later b2) (by have := HNL.out; omega) _ ⟨fun _ _ => by kernel_rfl⟩ (fun n => decide (n < 0 ∨ 2147483647 < n)) (fun W x hW _ => encbad_calls W x) _ HUB.out).mono ?_); rintro e w3 ⟨rfl, b3⟩))
      go_ret2
      exact ⟨(HB1.out.trans b2).trans b3, by rw [HV.out]; rfl⟩
    | false =>
      have HV : Hid (encV o = some (encB o)) := hide (by
       unfold encV
       rw [if_pos]
       refine encOk_iff.2 ⟨HUP.out, by have := HNQ.out; omega, fun n hn => ?_⟩
       have h2 := List.any_eq_false.1 HUB.out n hn
       simp only [decide_eq_true_iff] at h2; omega)
      have HKD := hide ((plainB_bare o).1 HUP.out)
      go_upto_region 4 with (first | (go_at_call 31; (refine (HPL.out _).mono ?_); rintro e w2 ⟨rfl, b2⟩; have rr := HR0.out.later (HL1.out.trans b2); have x8' := rr.cell (i := 8) rfl; clear rr) | (go_at_call 46; (with_reducible refine (contI0_calls _ _ (numsOf o) (HO4.out.later b2) (by have := HNL.out; omega) _ ⟨fun _ _ => by kernel_rfl⟩ (fun n => decide (n < 0 ∨ 2147483647 < n)) (fun W x hW _ => encbad_calls W x) _ HUB.out).mono ?_); rintro e w3 ⟨rfl, b3⟩))
      have HWB : Hid (W0.heap.size <= w1.heap.size) := hide HL1.out.size
      have HQ3 : Hid (nq <= 3) := hide (by omega)
      have L3 : Hid (Later W0 w3) := hide (HL1.out.trans (b2.trans b3)); have L13 : Hid (Later w1 w3) := hide (b2.trans b3)
      clear x0 x1 x2 x3 x4 x5 x6 x7 x8 x8' b2 b3 g3 t3
      have rr := HR0.out.later L3.out
      have x0 := rr.cell (i := 0) rfl
      clear rr
      have hwk : IntKind.u8.wrap o.kind = o.kind := IntWalk.u8_in _ (by have := HKD.out; omega)
      go_wp2_with fail
      clear x0 hwk
      go_loopw [5, 30] (fun ov iv wr => ∃ (j : Nat) (A5 : Option Addr) (n5 c5 : Nat), ov = .slice A5 n5 c5 /\ iv = .int .i64 (j : Int) /\ j <= n4 /\ Hid (OutB w1.heap.size wr (.slice A5 n5 c5) (encT o (numsOf o) j)) /\ Hid (Later W0 wr) /\ Hid (Later w1 wr)) (fun _ iv _ => (n4 - intOf iv).toNat)
      case atStart => exact ⟨0, _, _, _, rfl, rfl, Nat.zero_le _, hide (World.ownsRow_lit w3 #[.int .u8 o.kind] (e := 5) (size := 1) (base := w1.heap.size) 1 L13.out.size (by decide) rfl), hide (L3.out.alloc _), hide (L13.out.alloc _)⟩
      case round =>
       obtain ⟨j, A5, n5, c5, rfl, rfl, hj, HO, HLW, HLY⟩ := hrel
       by_cases hjn : j < n4
       ·obtain ⟨x, hx⟩ : ∃ x, (numsOf o)[j]? = some x := ⟨(numsOf o)[j]'(by have := HN4.out; omega), List.getElem?_eq_getElem _⟩
        obtain ⟨b1, off1, rfl, x1⟩ := (HO4.out.later HLY.out).at1 hx
        have HGX : Hid ((numsOf o).getD j 0 = x) := hide (by rw [List.getD_eq_getElem?_getD, hx]; rfl)
        have hxr : 0 <= x /\ x <= 2147483647 := by
         have h2 := List.any_eq_false.1 HUB.out x (List.mem_of_getElem? hx)
         simp only [decide_eq_true_iff] at h2; omega
        have hj0 : (0 : Int) <= (j : Int) := by omega
        have hj1 : (j : Int) < n4 := by omega
        obtain ⟨L, hL⟩ : ∃ L, L = encT o (numsOf o) j := ⟨_, rfl⟩
        have HL := hide hL
        have HLN : Hid (L.length <= 5500) := hide (by rw [hL]; have h1 := encT_len o (numsOf o) j; have h2 := HNL.out; have h3 := HN4.out; omega)
        rw [<- hL] at HO
        clear hx hL
        go_wp2_with fail
        go_loopw [5, 35] (fun ov iv wr => ∃ (k : Nat) (A5 : Option Addr) (n5 c5 : Nat), ov = .slice A5 n5 c5 /\ iv = .int .i64 (k : Int) /\ k <= 4 /\ Hid (OutB w1.heap.size wr (.slice A5 n5 c5) (L ++ (num4 x).take k)) /\ Hid (Later W0 wr) /\ Hid (Later w1 wr)) (fun _ iv _ => (4 - intOf iv).toNat)
        case atStart => exact ⟨0, _, _, _, rfl, rfl, Nat.zero_le _, hide (by rw [List.take_zero, List.append_nil]; exact HO.out), HLW, HLY⟩
        case round =>
         obtain ⟨k, A5, n5, c5, rfl, rfl, hk, HO, HLW, HLY⟩ := hrel
         by_cases hk4 : k < 4
         ·obtain ⟨M, hM⟩ : ∃ M, M = L ++ (num4 x).take k := ⟨_, rfl⟩
          have HM := hide hM
          have HLL : Hid (M.length <= 6000) := hide (by rw [hM, List.length_append, List.length_take]; have := HLN.out; omega)
          rw [<- hM] at HO
          have hn5 : n5 = M.length := (own_len3 HO.out).1
          subst hn5
          clear hM
          have HOW : Hid (∀ x : Int, (wr.alloc (Obj.cells #[Value.int .u8 x] 5)).ownsRow w1.heap.size 5 1 (.slice A5 M.length c5) M.length (M.flatMap uCells)) := hide (fun x => World.ownsRow.alloc HO.out _)
          have HSRC : Hid (∀ x : Int, Src (wr.alloc (Obj.cells #[Value.int .u8 x] 5)) 1 (.slice (some ⟨wr.heap.size, 0, none⟩) 1 1) 1 [.int .u8 x]) := hide (fun x => ⟨rfl, (by intro u hu; simp at hu; subst hu; rfl), .inr ⟨_, _, rfl, fun jj u hj => by rw [addr_add, Nat.zero_add]; exact (Row.new wr 5 [.int .u8 x]).cell hj⟩⟩)
          have HBS : Hid (∀ x : Int, w1.heap.size <= (wr.alloc (Obj.cells #[Value.int .u8 x] 5)).heap.size) := hide (fun x => ((HLY.out.alloc _).size))
          have HX9 := hide hxr
          have hk0 : (0 : Int) <= (k : Int) := by omega
          have hcase : k = 0 ∨ k = 1 ∨ k = 2 ∨ k = 3 := by omega
          rcases hcase with rfl | rfl | rfl | rfl
          ·go_wp2_with (at_builtin; (refine wpList_append_src rfl (.tmp 38) (.tmp 44) 45 rfl w1.heap.size 5 (.int .u8 0) 1 1 Tryz.underlying45 info_u8 rfl (by omega) (by omega) _ M.length _ rfl (HOW.out _) _ 1 [.int .u8 _] rfl (HSRC.out _) (by have := HLL.out; omega) (HBS.out _) ?_); intro v' w5 hown hg hblk; obtain ⟨A6, c6, rfl⟩ := own_form hown; have HO5 := hide hown; have HG5 := hide hg; clear hown hg hblk)
           refine ⟨⟨0+1, _, _, _, rfl, by go_num, by omega, hide ?_, hide ((HLW.out.alloc _).grown HG5.out (fun k hk => by have h1 := (World.ownsRow.lt HO.out k hk).1; have h2 := HWB.out; omega)), hide ((HLY.out.alloc _).grown HG5.out (fun k hk => (World.ownsRow.lt HO.out k hk).1))⟩, by simp [intOf]⟩
           have he : L ++ (num4 x).take (0+1) = M ++ [(num4 x).getD 0 0] := by rw [HM.out, List.append_assoc]; rfl
           rw [he]
           refine OutB.snoc HO5.out ?_
           have hx9 := HX9.out
           show _ = x % 256
           first | (simp [IntKind.wrap_u8, Int.fdiv_eq_ediv_of_nonneg]; done) | omega | (simp only [Int.fdiv_eq_ediv_of_nonneg _ (show (0 : Int) <= _ by decide)]; omega)
          ·go_wp2_with (at_builtin; (refine wpList_append_src rfl (.tmp 38) (.tmp 44) 45 rfl w1.heap.size 5 (.int .u8 0) 1 1 Tryz.underlying45 info_u8 rfl (by omega) (by omega) _ M.length _ rfl (HOW.out _) _ 1 [.int .u8 _] rfl (HSRC.out _) (by have := HLL.out; omega) (HBS.out _) ?_); intro v' w5 hown hg hblk; obtain ⟨A6, c6, rfl⟩ := own_form hown; have HO5 := hide hown; have HG5 := hide hg; clear hown hg hblk)
           refine ⟨⟨1+1, _, _, _, rfl, by go_num, by omega, hide ?_, hide ((HLW.out.alloc _).grown HG5.out (fun k hk => by have h1 := (World.ownsRow.lt HO.out k hk).1; have h2 := HWB.out; omega)), hide ((HLY.out.alloc _).grown HG5.out (fun k hk => (World.ownsRow.lt HO.out k hk).1))⟩, by simp [intOf]⟩
           have he : L ++ (num4 x).take (1+1) = M ++ [(num4 x).getD 1 0] := by rw [HM.out, List.append_assoc]; rfl
           rw [he]
           refine OutB.snoc HO5.out ?_
           have hx9 := HX9.out
           show _ = x / 256 % 256
           first | (simp [IntKind.wrap_u8, Int.fdiv_eq_ediv_of_nonneg]; done) | omega | (simp only [Int.fdiv_eq_ediv_of_nonneg _ (show (0 : Int) <= _ by decide)]; omega)
          ·go_wp2_with (at_builtin; (refine wpList_append_src rfl (.tmp 38) (.tmp 44) 45 rfl w1.heap.size 5 (.int .u8 0) 1 1 Tryz.underlying45 info_u8 rfl (by omega) (by omega) _ M.length _ rfl (HOW.out _) _ 1 [.int .u8 _] rfl (HSRC.out _) (by have := HLL.out; omega) (HBS.out _) ?_); intro v' w5 hown hg hblk; obtain ⟨A6, c6, rfl⟩ := own_form hown; have HO5 := hide hown; have HG5 := hide hg; clear hown hg hblk)
           refine ⟨⟨2+1, _, _, _, rfl, by go_num, by omega, hide ?_, hide ((HLW.out.alloc _).grown HG5.out (fun k hk => by have h1 := (World.ownsRow.lt HO.out k hk).1; have h2 := HWB.out; omega)), hide ((HLY.out.alloc _).grown HG5.out (fun k hk => (World.ownsRow.lt HO.out k hk).1))⟩, by simp [intOf]⟩
           have he : L ++ (num4 x).take (2+1) = M ++ [(num4 x).getD 2 0] := by rw [HM.out, List.append_assoc]; rfl
           rw [he]
           refine OutB.snoc HO5.out ?_
           have hx9 := HX9.out
           show _ = x / 65536 % 256
           first | (simp [IntKind.wrap_u8, Int.fdiv_eq_ediv_of_nonneg]; done) | omega | (simp only [Int.fdiv_eq_ediv_of_nonneg _ (show (0 : Int) <= _ by decide)]; omega)
          ·go_wp2_with (at_builtin; (refine wpList_append_src rfl (.tmp 38) (.tmp 44) 45 rfl w1.heap.size 5 (.int .u8 0) 1 1 Tryz.underlying45 info_u8 rfl (by omega) (by omega) _ M.length _ rfl (HOW.out _) _ 1 [.int .u8 _] rfl (HSRC.out _) (by have := HLL.out; omega) (HBS.out _) ?_); intro v' w5 hown hg hblk; obtain ⟨A6, c6, rfl⟩ := own_form hown; have HO5 := hide hown; have HG5 := hide hg; clear hown hg hblk)
           refine ⟨⟨3+1, _, _, _, rfl, by go_num, by omega, hide ?_, hide ((HLW.out.alloc _).grown HG5.out (fun k hk => by have h1 := (World.ownsRow.lt HO.out k hk).1; have h2 := HWB.out; omega)), hide ((HLY.out.alloc _).grown HG5.out (fun k hk => (World.ownsRow.lt HO.out k hk).1))⟩, by simp [intOf]⟩
           have he : L ++ (num4 x).take (3+1) = M ++ [(num4 x).getD 3 0] := by rw [HM.out, List.append_assoc]; rfl
           rw [he]
           refine OutB.snoc HO5.out ?_
           have hx9 := HX9.out
           show _ = x / 16777216 % 256
           first | (simp [IntKind.wrap_u8, Int.fdiv_eq_ediv_of_nonneg]; done) | omega | (simp only [Int.fdiv_eq_ediv_of_nonneg _ (show (0 : Int) <= _ by decide)]; omega)
         ·obtain rfl : k = 4 := by omega
          have HT : Hid ((num4 x).take 4 = num4 x) := hide rfl
          rw [HT.out] at HO
          have rr := HR0.out.later HLW.out
          have x0 := rr.cell (i := 0) rfl
          have x8 := rr.cell (i := 8) rfl
          clear rr
          obtain ⟨L2, hL2⟩ : ∃ L2, L2 = L ++ num4 x := ⟨_, rfl⟩
          have HL2 := hide hL2
          have HLL : Hid (L2.length <= 6000) := hide (by rw [hL2, List.length_append, num4_len]; have := HLN.out; omega)
          rw [<- hL2] at HO
          have hn5 : n5 = L2.length := (own_len3 HO.out).1
          subst hn5
          clear hL2
          by_cases k5 : o.kind = 5
          ·have t5 : (o.kind == 5) = true := by simpa using k5
           by_cases hz0 : j = 0
           ·have HE : Hid (encT o (numsOf o) (j+1) = L2 ++ [(o.qtys.length : Int)]) := hide (by
             show (encT o (numsOf o) j ++ num4 ((numsOf o).getD j 0)) ++ (if o.kind = 5 /\ j = 0 then _ else _) = _
             rw [if_pos ⟨k5, hz0⟩, HL2.out, HL.out, HGX.out])
            have t6 : ((j : Int) == 0) = true := by simp; omega
            have hq3 := HQ3.out
            clear hz0 k5
            have HOW : Hid (∀ x : Int, (wr.alloc (Obj.cells #[Value.int .u8 x] 5)).ownsRow w1.heap.size 5 1 (.slice A5 L2.length c5) L2.length (L2.flatMap uCells)) := hide (fun x => World.ownsRow.alloc HO.out _)
            have HSRC : Hid (∀ x : Int, Src (wr.alloc (Obj.cells #[Value.int .u8 x] 5)) 1 (.slice (some ⟨wr.heap.size, 0, none⟩) 1 1) 1 [.int .u8 x]) := hide (fun x => ⟨rfl, (by intro u hu; simp at hu; subst hu; rfl), .inr ⟨_, _, rfl, fun jj u hj => by rw [addr_add, Nat.zero_add]; exact (Row.new wr 5 [.int .u8 x]).cell hj⟩⟩)
            have HBS : Hid (∀ x : Int, w1.heap.size <= (wr.alloc (Obj.cells #[Value.int .u8 x] 5)).heap.size) := hide (fun x => ((HLY.out.alloc _).size))
            go_wp2_with (at_builtin; (refine wpList_append_src rfl (.tmp 54) (.tmp 59) 45 rfl w1.heap.size 5 (.int .u8 0) 1 1 Tryz.underlying45 info_u8 rfl (by omega) (by omega) _ L2.length _ rfl (HOW.out _) _ 1 [.int .u8 _] rfl (HSRC.out _) (by have := HLL.out; omega) (HBS.out _) ?_); intro v' w5 hown hg hblk; obtain ⟨A6, c6, rfl⟩ := own_form hown; have HO5 := hide hown; have HG5 := hide hg; clear hown hg hblk)
            refine ⟨⟨j+1, _, _, _, rfl, by go_num, by omega, hide ?_, hide ((HLW.out.alloc _).grown HG5.out (fun k hk => by have h1 := (World.ownsRow.lt HO.out k hk).1; have h2 := HWB.out; omega)), hide ((HLY.out.alloc _).grown HG5.out (fun k hk => (World.ownsRow.lt HO.out k hk).1))⟩, by simp [intOf]; omega⟩
            rw [HE.out]
            refine OutB.snoc HO5.out ?_
            have h1 := HNQ.out
            first | omega | (simp [IntKind.wrap_u8]; omega)
           ·have HE : Hid (encT o (numsOf o) (j + 1) = L2) := hide (by
             show (encT o (numsOf o) j ++ num4 ((numsOf o).getD j 0)) ++ (if o.kind = 5 /\ j = 0 then _ else _) = _
             rw [if_neg (fun h => hz0 h.2), List.append_nil, HL2.out, HL.out, HGX.out])
            have t6 : ((j : Int) == 0) = false := by simp; omega
            go_wp2_with fail
            refine ⟨⟨j + 1, _, _, _, rfl, by go_num, by omega, hide (by rw [HE.out]; exact HO.out), HLW, HLY⟩, by simp [intOf]; omega⟩
          ·have t5 : (o.kind == 5) = false := by simpa using k5
           have HE : Hid (encT o (numsOf o) (j + 1) = L2) := hide (by
            show (encT o (numsOf o) j ++ num4 ((numsOf o).getD j 0)) ++ (if o.kind = 5 /\ j = 0 then _ else _) = _
            rw [if_neg (fun h => k5 h.1), List.append_nil, HL2.out, HL.out, HGX.out])
           go_wp2_with fail
           refine ⟨⟨j + 1, _, _, _, rfl, by go_num, by omega, hide (by rw [HE.out]; exact HO.out), HLW, HLY⟩, by simp [intOf]; omega⟩
       ·obtain rfl : n4 = j := by omega
        have HE : Hid (encT o (numsOf o) n4 = encB o) := hide (by rw [HN4.out]; exact encT_all HUP.out)
        rw [HE.out] at HO
        go_wp2_with fail
        go_ret2
        refine ⟨B0.out.trans HLW.out, ?_⟩
        rw [HV.out]
        exact ⟨_, _, _, rfl, own_weaken HO.out (Nat.le_trans B0.out.size HWB.out)⟩
end Go.Proofs.YtncbebfhakcgdaaGreat
namespace Go.Proofs.YtncbebfhakcgdaaGreat
open Go.RowKit Go.Shelf
attribute [local go_sem ↓] Go.wp_at_zero Go.wp_at_succ
def RdS (w0 w : World) (G : Nat) (l : List Int) : Prop := ∃ A n c, Row w G 91 [.slice A n c] /\ Sq 1 uCells w0 (.slice A n c) l
theorem RdS.only {w0 w w' : World} {G g : Nat} {l : List Int} (h : RdS w0 w G l) (hne : G ≠ g) (o : Only g w w') : RdS w0 w' G l := by
 obtain ⟨A, n, c, h1, h2⟩ := h
 exact ⟨A, n, c, h1.only o hne, h2⟩
theorem RdS.later {w0 w w' : World} {G : Nat} {l : List Int} (h : RdS w0 w G l) (hb : Later w w') : RdS w0 w' G l := by
 obtain ⟨A, n, c, h1, h2⟩ := h
 exact ⟨A, n, c, h1.later hb, h2⟩
theorem RdS.put {w0 w : World} {G : Nat} {A A' : Option Addr} {n c n' c' : Nat} {l : List Int} (hr : Row w G 91 [.slice A n c]) (h : Sq 1 uCells w0 (.slice A' n' c') l) : RdS w0 (w.setCell ⟨G, 0, none⟩ (.slice A' n' c')) G l :=
 ⟨A', n', c', hr.set_ 0 _, h⟩
theorem Sq.tail1 {w : World} {b off n c : Nat} {x : Int} {l : List Int} (h : Sq 1 uCells w (.slice (some ⟨b, off, none⟩) n c) (x :: l)) : Sq 1 uCells w (.slice (some ⟨b, off + 1, none⟩) (n - 1) (c - 1)) l := by
 obtain ⟨A, c', e, h1, h2, h3⟩ := h
 injection e with e1 e2 e3
 subst e1 e2 e3
 refine ⟨_, _, by rw [List.length_cons, Nat.add_sub_cancel], by rw [List.length_cons] at h1; omega, by omega, fun i y hi => ?_⟩
 obtain ⟨b', off', ha, hx⟩ := h3 (i+1) y (by simpa using hi)
 injection ha with ha; injection ha with ha1 ha2
 subst ha1 ha2
 refine ⟨_, _, rfl, fun j u hj => ?_⟩
 have := hx j u hj
 rw [show off + (i+1) * 1 + j = off + 1 + i * 1 + j by omega] at this
 exact this
theorem Sq.none0 {w : World} (A : Option Addr) (c : Nat) (hc : c <= maxLen) : Sq 1 uCells w (.slice A 0 c) [] := ⟨A, c, rfl, Nat.zero_le _, hc, fun i x hi => by simp at hi⟩
def part (l : List Int) : Nat -> Int
 | 0 => 0
 | k + 1 => part l k + l.getD k 0 * 256 ^ k
theorem part4 (l : List Int) : part l 4 = le4 l 0 := by
 show (((0 + l.getD 0 0 * 256 ^ 0) + l.getD 1 0 * 256 ^ 1) + l.getD 2 0 * 256 ^ 2) + l.getD 3 0 * 256 ^ 3 = _
 unfold le4
 rw [show (0 : Nat) + 1 = 1 from rfl, show (0 : Nat) + 2 = 2 from rfl, show (0 : Nat) + 3 = 3 from rfl]
 omega
theorem part_small {l : List Int} (h : Bytes l) : ∀ k, 0 <= part l k /\ part l k < 256 ^ k
 | 0 => by simp [part]
 | k + 1 => by
   obtain ⟨h1, h2⟩ := part_small h k
   have h3 := h.at_ k
   have h4 : (0 : Int) < 256 ^ k := by have := Int.pow_pos (n := 256) (m := k) (by decide); omega
   unfold part
   rw [Int.pow_succ]
   constructor
   ·have := Int.mul_nonneg h3.1 (Int.le_of_lt h4); omega
   ·have : l.getD k 0 * 256 ^ k <= 255 * 256 ^ k := Int.mul_le_mul_of_nonneg_right (by omega) (Int.le_of_lt h4)
    omega
theorem or_add (a x y : Int) (s : Nat) (hy : y = x * 2 ^ s) (ha : 0 <= a /\ a < 2 ^ s) (hx : 0 <= x) (hs : a + x * 2 ^ s < 2 ^ 62) : bits .or .i64 a y = a + x * 2 ^ s := by
 obtain ⟨A, rfl⟩ := Int.eq_ofNat_of_zero_le ha.1
 obtain ⟨X, rfl⟩ := Int.eq_ofNat_of_zero_le hx
 subst hy
 have e1 : ((X : Int) * 2 ^ s) = ((X <<< s : Nat) : Int) := by rw [Nat.shiftLeft_eq]; simp
 have h1 : A < 2 ^ s := by have := ha.2; exact_mod_cast this
 have h2 : A + X <<< s < 2 ^ 62 := by rw [e1] at hs; exact_mod_cast hs
 rw [e1]
 have h3 := Nat.shiftLeft_add_eq_or_of_lt h1 X
 clear hs hx ha e1 h1
 generalize X <<< s = Y at *
 show IntKind.i64.wrap ((BitVec.ofInt 64 (A : Int) ||| BitVec.ofInt 64 (Y : Int)).toNat : Int) = _
 have hA : A % 2 ^ 64 = A := Nat.mod_eq_of_lt (by omega)
 have hY : Y % 2 ^ 64 = Y := Nat.mod_eq_of_lt (by omega)
 rw [BitVec.ofInt_natCast, BitVec.ofInt_natCast, BitVec.toNat_or, BitVec.toNat_ofNat, BitVec.toNat_ofNat, hA, hY, Nat.or_comm, <- h3]
 rw [IntWalk.i64_in _ (by omega)]
 omega
def numV (l : List Int) : Option (Int × List Int) := if l.length < 4 then none else if le4 l 0 <= 2147483647 then some (le4 l 0, l.drop 4) else none
def RdP (w0 w : World) (G : Nat) (r : Option (Int × List Int)) (e : Ending) (w' : World) : Prop := Only G w w' /\ match r with
 | some (x, l) => e = .returned (.int .i64 x) /\ RdS w0 w' G l
 | none => e = .panicked (Pan 2)
def byteV : List Int -> Option (Int × List Int)
 | [] => none
 | x :: l => some (x, l)
set_option maxHeartbeats 4000000 in
theorem byte_calls (w : World) (w0 : World) (hl : Later w0 w) (G : Nat) (hG : w0.heap.size <= G) (l : List Int) (hb : Bytes l) (h : RdS w0 w G l) :
 Calls Tryz.prog 90 #[.pointer (some ⟨G, 0, none⟩)] w (RdP w0 w G (byteV l)) := by
 obtain ⟨A, n, c, hR, hS⟩ := h
 obtain ⟨_, _, _, e, hn, hnc, hcm, -⟩ := hS.form
 injection e with e1 e2 e3
 subst e1 e2 e3
 have HR := hide hR; have HS := hide hS; have HC := hide (And.intro hnc hcm)
 have r0 := hR.cell (i := 0) rfl; have z0 := hR.frozen 0
 cases l with
 | nil =>
   have hn0 : n = 0 := by simpa using hn
   subst hn0
   clear hR hS hn hnc hcm hb
   go_enter Tryz.func90, Tryz.ntmps90
   go_wp2_with (go_at_call 29; refine (must_no _ _).mono ?_; rintro e w' ⟨rfl, rfl⟩)
   exact ⟨rfl, Only.refl _ _, rfl⟩
 | cons x l =>
   have hx := hb x (by simp)
   obtain ⟨b, off, rfl, hcell⟩ := (hS.later hl).at_ (i := 0) rfl
   have y0 := hcell 0 _ rfl
   rw [show off + 0 * 1 + 0 = off by omega] at y0
   have HT := hide hS.tail1
   have hn1 : 0 < n := by rw [hn]; simp
   have t1 : decide ((0 : Int) < (n : Int)) = true := by simp; omega
   have hw : IntKind.i64.wrap x = x := IntWalk.i64_in _ (by omega)
   have HN := hide hn
   clear hR hS hn hb hcell hcm
   by_cases hc1 : c = 1
   ·go_enter Tryz.func90, Tryz.ntmps90
    go_wp2_with (go_at_call 29; refine (must_yes _ _).mono ?_; rintro e w' ⟨rfl, rfl⟩)
    refine bodyPost_ret (results_sl rfl rfl) rfl ⟨Only.one _ _ _ _, rfl, RdS.put HR.out ?_⟩
    have h1 := HC.out; have h2 := HN.out
    have hl : l = [] := by cases l with | nil => rfl | cons y l => simp at h2; omega
    rw [show n - 1 = 0 by omega, hl]
    exact Sq.none0 _ _ (Nat.zero_le _)
   ·go_enter Tryz.func90, Tryz.ntmps90
    go_wp2_with (go_at_call 29; refine (must_yes _ _).mono ?_; rintro e w' ⟨rfl, rfl⟩)
    refine bodyPost_ret (results_sl rfl rfl) rfl ⟨Only.one _ _ _ _, rfl, RdS.put HR.out HT.out⟩
set_option maxHeartbeats 1000000 in
theorem num_calls (w : World) (w0 : World) (hl : Later w0 w) (G : Nat) (hG : w0.heap.size <= G) (l : List Int) (hb : Bytes l) (h : RdS w0 w G l) :
 Calls Tryz.prog 91 #[.pointer (some ⟨G, 0, none⟩)] w (RdP w0 w G (numV l)) := by
 have HB := hide hb; have H := hide h; have HL := hide hl; have HGG := hide hG
 clear hb h hl hG
 go_enter Tryz.func91, Tryz.ntmps91
 go_wp2_with fail
 go_loopw [3, 5] (fun nv iv wr => ∃ (k : Nat) (z : Int), nv = .int .i64 z /\ iv = .int .i64 (k : Int) /\ k <= 4 /\ k <= l.length /\ Hid (z = part l k) /\ Hid (RdS w0 wr G (l.drop k)) /\ Hid (Only G w wr)) (fun _ iv _ => (4 - intOf iv).toNat)
 case atStart => exact ⟨0, 0, rfl, rfl, Nat.zero_le _, Nat.zero_le _, hide rfl, H, hide (Only.refl _ _)⟩
 case round =>
  obtain ⟨k, z, rfl, rfl, hk, hkl, HZ, HRD, HON⟩ := hrel
  by_cases hk4 : k < 4
  ·by_cases hlt : k < l.length
   ·obtain ⟨x, hx⟩ : ∃ x, l[k]? = some x := ⟨l[k], List.getElem?_eq_getElem _⟩
    have hd : l.drop k = x :: l.drop (k+1) := by
     rw [List.drop_eq_getElem_cons hlt]
     have := List.getElem?_eq_getElem hlt
     rw [hx] at this; injection this with this; rw [this]
    have HBV : Hid (∀ W, Later w0 W -> RdS w0 W G (l.drop k) -> Calls Tryz.prog 90 #[.pointer (some ⟨G, 0, none⟩)] W (RdP w0 W G (some (x, l.drop (k+1))))) := hide (fun W hl hW => by
     have h2 := byte_calls W w0 hl G HGG.out (l.drop k) (fun y hy => HB.out y (List.mem_of_mem_drop hy)) hW
     rw [show byteV (l.drop k) = some (x, l.drop (k+1)) by rw [hd]; rfl] at h2; exact h2)
    have HGX : Hid (l.getD k 0 = x) := hide (by rw [List.getD_eq_getElem?_getD, hx]; rfl)
    have hxr := HB.out x (List.mem_of_getElem? hx)
    have HPS := hide (part_small HB.out k)
    clear hx hd
    have hcase : k = 0 ∨ k = 1 ∨ k = 2 ∨ k = 3 := by omega
    rcases hcase with rfl | rfl | rfl | rfl
    ·go_wp2_with (go_at_call 90; (refine (HBV.out _ (HL.out.only HON.out HGG.out) HRD.out).mono ?_); rintro e w1 ⟨o1, rfl, rd1⟩)
     refine ⟨⟨0+1, _, rfl, by go_num, by omega, by omega, hide ?_, hide rd1, hide (HON.out.trans o1)⟩, by simp [intOf]⟩
     have hz := HZ.out
     have hs := HPS.out
     have hg := HGX.out
     rw [hz]
     show _ = part l 0 + l.getD 0 0 * 256 ^ 0
     rw [hg]
     refine (or_add (part l 0) x _ 0 (by first | rfl | omega | (simp; done)) (by omega) (by omega) (by omega)).trans (by omega)
    ·go_wp2_with (go_at_call 90; (refine (HBV.out _ (HL.out.only HON.out HGG.out) HRD.out).mono ?_); rintro e w1 ⟨o1, rfl, rd1⟩)
     refine ⟨⟨1+1, _, rfl, by go_num, by omega, by omega, hide ?_, hide rd1, hide (HON.out.trans o1)⟩, by simp [intOf]⟩
     have hz := HZ.out
     have hs := HPS.out
     have hg := HGX.out
     rw [hz]
     show _ = part l 1 + l.getD 1 0 * 256 ^ 1
     rw [hg]
     refine (or_add (part l 1) x _ 8 (by first | rfl | omega | (simp; done)) (by omega) (by omega) (by omega)).trans (by omega)
    ·go_wp2_with (go_at_call 90; (refine (HBV.out _ (HL.out.only HON.out HGG.out) HRD.out).mono ?_); rintro e w1 ⟨o1, rfl, rd1⟩)
     refine ⟨⟨2+1, _, rfl, by go_num, by omega, by omega, hide ?_, hide rd1, hide (HON.out.trans o1)⟩, by simp [intOf]⟩
     have hz := HZ.out
     have hs := HPS.out
     have hg := HGX.out
     rw [hz]
     show _ = part l 2 + l.getD 2 0 * 256 ^ 2
     rw [hg]
     refine (or_add (part l 2) x _ 16 (by first | rfl | omega | (simp; done)) (by omega) (by omega) (by omega)).trans (by omega)
    ·go_wp2_with (go_at_call 90; (refine (HBV.out _ (HL.out.only HON.out HGG.out) HRD.out).mono ?_); rintro e w1 ⟨o1, rfl, rd1⟩)
     refine ⟨⟨3+1, _, rfl, by go_num, by omega, by omega, hide ?_, hide rd1, hide (HON.out.trans o1)⟩, by simp [intOf]⟩
     have hz := HZ.out
     have hs := HPS.out
     have hg := HGX.out
     rw [hz]
     show _ = part l 3 + l.getD 3 0 * 256 ^ 3
     rw [hg]
     refine (or_add (part l 3) x _ 24 (by first | rfl | omega | (simp; done)) (by omega) (by omega) (by omega)).trans (by omega)
   ·have HV : Hid (numV l = none) := hide (by unfold numV; rw [if_pos (by omega)])
    have HBV : Hid (∀ W, Later w0 W -> RdS w0 W G (l.drop k) -> Calls Tryz.prog 90 #[.pointer (some ⟨G, 0, none⟩)] W (RdP w0 W G none)) := hide (fun W hl hW => by
     have h2 := byte_calls W w0 hl G HGG.out (l.drop k) (fun y hy => HB.out y (List.mem_of_mem_drop hy)) hW
     rw [show l.drop k = [] from List.drop_eq_nil_of_le (by omega)] at h2; exact h2)
    go_wp2_with (go_at_call 90; (refine (HBV.out _ (HL.out.only HON.out HGG.out) HRD.out).mono ?_); rintro e w1 ⟨o1, rfl⟩)
    exact ⟨rfl, HON.out.trans o1, by rw [HV.out]⟩
  ·obtain rfl : k = 4 := by omega
   rw [part4] at HZ
   by_cases hz : z <= 2147483647
   ·have t1 : decide (z <= 2147483647) = true := by simpa using hz
    have HV : Hid (numV l = some (z, l.drop 4)) := hide (by unfold numV; rw [if_neg (by omega), if_pos (by rw [<- HZ.out]; exact hz), HZ.out])
    go_wp2_with (go_at_call 29; refine (must_yes _ _).mono ?_; rintro e w' ⟨rfl, rfl⟩)
    refine bodyPost_ret (results_sl rfl rfl) rfl ⟨HON.out, ?_⟩
    rw [HV.out]
    exact ⟨rfl, HRD.out⟩
   ·have t1 : decide (z <= 2147483647) = false := by simpa using hz
    have HV : Hid (numV l = none) := hide (by unfold numV; rw [if_neg (by omega), if_neg (by rw [<- HZ.out]; exact hz)])
    go_wp2_with (go_at_call 29; refine (must_no _ _).mono ?_; rintro e w' ⟨rfl, rfl⟩)
    exact ⟨rfl, HON.out, by rw [HV.out]⟩
end Go.Proofs.YtncbebfhakcgdaaGreat
