/- Books: the reference: Encode. -/
import Derived.Test.YtncbebfhakcgdaaGreatC28
import Derived.Test.YtncbebfhakcgdaaGreatC7
import Derived.Laws.BytesArg
import Derived.Deep.CutBlock
import Derived.Test.YtncbebfhakcgdaaGreatC18
import Derived.OpenShut
set_option linter.unusedVariables false
set_option linter.unusedSimpArgs false
set_option maxRecDepth 100000
namespace Go.Proofs.YtncbebfhakcgdaaGreat
open Go.RowKit Go.Shelf
attribute [local go_sem ↓] Go.wp_at_zero Go.wp_at_succ
set_option maxHeartbeats 2000000 in
theorem rencode_calls (w : World) (Aq : Option Addr) (nq cq : Nat) (o : POp) (hQ : Sq 1 iCells w (.slice Aq nq cq) o.qtys) (hz : Aq = none -> cq = 0) (hql : o.qtys.length <= 1000) :
 Calls Tryz.prog 19 #[.agg #[.int .i64 o.kind, .int .i64 o.ord.id, .int .i64 o.ord.item, .int .i64 o.ord.due, .int .i64 o.ord.qty, .int .i64 o.id, .int .i64 o.period, .int .i64 o.qty, .slice Aq nq cq]] w (EncP w (encV o)) := by
 have hnq : nq = o.qtys.length := by
  obtain ⟨_, _, _, e, e2, -⟩ := hQ.form
  injection e with _ e3 _; omega
 have HNQ := hide hnq; have HQ := hide hQ; have HS := hide (src_of hQ hz); have HQL : Hid (nq <= 1000) := hide (by omega)
 clear hQ hz hql hnq
 obtain ⟨W0, hW0⟩ : ∃ W0, W0 = (w.alloc (Obj.cells #[Value.int .i64 o.kind, Value.int .i64 o.ord.id, Value.int .i64 o.ord.item, Value.int .i64 o.ord.due, Value.int .i64 o.ord.qty, Value.int .i64 o.id, Value.int .i64 o.period, Value.int .i64 o.qty, Value.slice Aq nq cq] 31)) := ⟨_, rfl⟩
 have B0 := hide (show Later w W0 by rw [hW0]; exact (Later.refl _).alloc _)
 have HR0 := hide (show Row W0 w.heap.size 31 [.int .i64 o.kind, .int .i64 o.ord.id, .int .i64 o.ord.item, .int .i64 o.ord.due, .int .i64 o.ord.qty, .int .i64 o.id, .int .i64 o.period, .int .i64 o.qty, .slice Aq nq cq] by rw [hW0]; exact Row.new _ _ _)
 have HW0 := hide hW0
 clear hW0
 go_enter Tryz.func19, Tryz.ntmps19
 go_upto_region 1 with fail
 rw [<- HW0.out]
 have x0 := HR0.out.cell (i := 0) rfl; have x1 := HR0.out.cell (i := 1) rfl; have x2 := HR0.out.cell (i := 2) rfl; have x3 := HR0.out.cell (i := 3) rfl; have x4 := HR0.out.cell (i := 4) rfl; have x5 := HR0.out.cell (i := 5) rfl; have x6 := HR0.out.cell (i := 6) rfl; have x7 := HR0.out.cell (i := 7) rfl; have x8 := HR0.out.cell (i := 8) rfl
 have HLIT : Hid ((W0.alloc (Obj.cells #[Value.int .i64 o.ord.id, Value.int .i64 o.ord.item, Value.int .i64 o.ord.due, Value.int .i64 o.ord.qty, Value.int .i64 o.id, Value.int .i64 o.period, Value.int .i64 o.qty] 3)).ownsRow W0.heap.size 3 1 (.slice (some ⟨W0.heap.size, 0, none⟩) 7 7) 7 [.int .i64 o.ord.id, .int .i64 o.ord.item, .int .i64 o.ord.due, .int .i64 o.ord.qty, .int .i64 o.id, .int .i64 o.period, .int .i64 o.qty]) := hide (World.ownsRow_lit W0 #[Value.int .i64 o.ord.id, Value.int .i64 o.ord.item, Value.int .i64 o.ord.due, Value.int .i64 o.ord.qty, Value.int .i64 o.id, Value.int .i64 o.period, Value.int .i64 o.qty] (e := 3) (size := 1) 7 (Nat.le_refl _) (by decide) rfl)
 have HSRC : Hid (Src (W0.alloc (Obj.cells #[Value.int .i64 o.ord.id, Value.int .i64 o.ord.item, Value.int .i64 o.ord.due, Value.int .i64 o.ord.qty, Value.int .i64 o.id, Value.int .i64 o.period, Value.int .i64 o.qty] 3)) 1 (.slice Aq nq cq) nq (o.qtys.flatMap iCells)) := hide (HS.out.later (B0.out.alloc _))
 have y8 := (HR0.out.alloc (Obj.cells #[Value.int .i64 o.ord.id, Value.int .i64 o.ord.item, Value.int .i64 o.ord.due, Value.int .i64 o.ord.qty, Value.int .i64 o.id, Value.int .i64 o.period, Value.int .i64 o.qty] 3)).cell (i := 8) rfl
 go_upto_region 2 with (at_builtin; (refine wpList_append_src rfl (.tmp 24) (.tmp 26) 23 rfl W0.heap.size 3 (.int .i64 0) 1 8 Tryz.underlying23 info_int rfl (by omega) (by omega) _ 7 [.int .i64 o.ord.id, .int .i64 o.ord.item, .int .i64 o.ord.due, .int .i64 o.ord.qty, .int .i64 o.id, .int .i64 o.period, .int .i64 o.qty] rfl HLIT.out _ nq (o.qtys.flatMap iCells) rfl HSRC.out (by have := HQL.out; omega) (by show W0.heap.size <= (W0.alloc _).heap.size; rw [World.size_alloc]; omega) ?_); intro v' w5 hown hg hblk; obtain ⟨A6, c6, rfl⟩ := own_form hown; have HO5 := hide hown; have HG5 := hide hg; clear hown hg hblk)
 obtain ⟨m, hm⟩ : ∃ m, m = 7 + nq := ⟨_, rfl⟩
 have HL5 : Hid (Later W0 w5) := hide (((Later.refl W0).alloc _).grown HG5.out (fun k hk => by injection hk with hk; subst hk; exact Nat.le_refl _))
 have hal : (allNums o).length = m := by rw [hm, HNQ.out]; unfold allNums; rw [List.length_append]; simp; try omega
 have HSQ : Hid (Sq 1 iCells w5 (.slice A6 m c6) (allNums o)) := hide (Sq.of_own iCells_ln (by rw [hal, hm]; exact HO5.out))
 have HAL := hide hal
 have h1007 : m <= 1007 := by have := HQL.out; omega
 rw [<- hm]
 have HM := hide hm
 clear x0 x1 x2 x3 x4 x5 x6 x7 x8 y8 hal HLIT HSRC HG5 HO5 hm
 go_wp2_with fail
 go_loopw [5] (fun iv wr => ∃ j : Nat, iv = .int .i64 (j : Int) /\ j <= m /\ Hid (∀ (i : Nat) x, i < j -> (allNums o)[i]? = some x -> 0 <= x /\ x <= 2147483647) /\ Hid (Later w5 wr)) (fun iv _ => (m - intOf iv).toNat)
 case atStart => exact ⟨0, rfl, Nat.zero_le _, hide (fun i x hi => by omega), hide (Later.refl _)⟩
 case round =>
  obtain ⟨j, rfl, hj, HOK, HL⟩ := hrel
  by_cases hjn : j < m
  ·obtain ⟨x, hx⟩ : ∃ x, (allNums o)[j]? = some x := ⟨(allNums o)[j]'(by have := HAL.out; omega), List.getElem?_eq_getElem _⟩
   obtain ⟨b1, off1, rfl, x1⟩ := (HSQ.out.later HL.out).at1 hx
   have HX := hide hx
   have hj0 : (0 : Int) <= (j : Int) := by omega
   have hj1 : (j : Int) < m := by omega
   have HNO : Hid (¬ (0 <= x /\ x <= 2147483647) -> encV o = none) := hide (fun hn => by
    unfold encV
    rw [if_neg]
    intro he
    have hp := (encOk_iff.1 he).1
    have h1 := allNums_ok hp
    have h2 : (numsOf o).all numOk = true := by unfold encOk at he; simp only [Bool.and_eq_true] at he; exact he.2
    rw [h2, List.all_eq_true] at h1
    have h3 := h1 x (List.mem_of_getElem? HX.out)
    unfold numOk at h3
    simp only [decide_eq_true_iff] at h3
    exact hn h3)
   clear hx
   by_cases g0 : x < 0
   ·have t1 : decide (x < 0) = true := by simpa using g0
    have HV := hide (HNO.out (by omega))
    go_wp2_with fail
    go_ret2
    exact ⟨(B0.out.trans HL5.out).trans HL.out, by rw [HV.out]; rfl⟩
   have t1 : decide (x < 0) = false := by simpa using g0
   by_cases g1 : 2147483647 < x
   ·have t2 : decide (2147483647 < x) = true := by simpa using g1
    have HV := hide (HNO.out (by omega))
    go_wp2_with fail
    go_ret2
    exact ⟨(B0.out.trans HL5.out).trans HL.out, by rw [HV.out]; rfl⟩
   have t2 : decide (2147483647 < x) = false := by simpa using g1
   have HN : Hid (∀ (i : Nat) y, i < j + 1 -> (allNums o)[i]? = some y -> 0 <= y /\ y <= 2147483647) := hide (fun i y hi hy => by
    by_cases e : i < j
    ·exact HOK.out i y e hy
    ·obtain rfl : i = j := by omega
     rw [HX.out] at hy; injection hy with hy; omega)
   go_wp2_with fail
   exact ⟨⟨j+1, by go_num, by omega, HN, HL⟩, by simp [intOf]; omega⟩
  ·obtain rfl : m = j := by omega
   have HALL : Hid (∀ x ∈ allNums o, 0 <= x /\ x <= 2147483647) := hide (fun x hx => by
    obtain ⟨i, hi⟩ := List.getElem?_of_mem hx
    exact HOK.out i x (by rw [<- HAL.out]; exact (List.getElem?_eq_some_iff.1 hi).1) hi)
   have HLW := hide (HL5.out.trans HL.out)
   have rr := HR0.out.later HLW.out
   have x0 := rr.cell (i := 0) rfl; have x1 := rr.cell (i := 1) rfl; have x2 := rr.cell (i := 2) rfl; have x3 := rr.cell (i := 3) rfl; have x4 := rr.cell (i := 4) rfl; have x5 := rr.cell (i := 5) rfl; have x6 := rr.cell (i := 6) rfl; have x7 := rr.cell (i := 7) rfl; have x8 := rr.cell (i := 8) rfl
   clear rr
   obtain ⟨up, hup⟩ : ∃ u, plainB o = u := ⟨_, rfl⟩
   have HUP := hide hup
   clear hup
   cases up with
   | false =>
     have HV : Hid (encV o = none) := hide (by unfold encV; rw [if_neg (fun he => by have h := (encOk_iff.1 he).1; rw [HUP.out] at h; cases h)])
     go_wp2_with (go_at_call 38; (refine (rplain20_calls _ Aq nq cq o HNQ.out _ HUP.out).mono ?_); rintro e z1 ⟨rfl, bz⟩)
     go_ret2
     exact ⟨(B0.out.trans HLW.out).trans bz, by rw [HV.out]; rfl⟩
   | true =>
     by_cases g3 : 3 < nq
     ·have t3 : decide ((3 : Int) < (nq : Int)) = true := by simp; omega
      have HV : Hid (encV o = none) := hide (by unfold encV; rw [if_neg (fun he => by have h := (encOk_iff.1 he).2.1; have := HNQ.out; omega)])
      go_wp2_with (go_at_call 38; (refine (rplain20_calls _ Aq nq cq o HNQ.out _ HUP.out).mono ?_); rintro e z1 ⟨rfl, bz⟩; have x8' := Later.cell bz x8)
      go_ret2
      exact ⟨(B0.out.trans HLW.out).trans bz, by rw [HV.out]; rfl⟩
     ·have t3 : decide ((3 : Int) < (nq : Int)) = false := by simp; omega
      have hall : (numsOf o).all numOk = true := by
       rw [<- allNums_ok HUP.out, List.all_eq_true]
       intro x hx
       unfold numOk
       simpa using HALL.out x hx
      have hok : encOk o = true := by unfold encOk; rw [HUP.out, hall]; simp; have := HNQ.out; omega
      have HOKE := hide hok
      have HV : Hid (encV o = some (encB o)) := hide (by unfold encV; rw [if_pos hok])
      clear hall hok g3
      go_wp2_with (first | (go_at_call 38; (refine (rplain20_calls _ Aq nq cq o HNQ.out _ HUP.out).mono ?_); rintro e z1 ⟨rfl, bz⟩; have x0' := Later.cell bz x0; have x1' := Later.cell bz x1; have x2' := Later.cell bz x2; have x3' := Later.cell bz x3; have x4' := Later.cell bz x4; have x5' := Later.cell bz x5; have x6' := Later.cell bz x6; have x7' := Later.cell bz x7; have x8' := Later.cell bz x8) | (go_at_call 48; (refine (write_calls _ Aq nq cq o (HQ.out.later ((B0.out.trans HLW.out).trans bz)) HOKE.out).mono ?_); rintro e z2 ⟨A9, n9, c9, rfl, o9, bz2⟩))
      go_ret2
      refine ⟨((B0.out.trans HLW.out).trans bz).trans bz2, ?_⟩
      rw [HV.out]
      exact ⟨_, _, _, rfl, own_weaken o9 (((B0.out.trans HLW.out).trans bz).size)⟩
end Go.Proofs.YtncbebfhakcgdaaGreat
namespace Go.Proofs.YtncbebfhakcgdaaGreat
open Go.RowKit Go.Shelf
attribute [local go_sem ↓] Go.wp_at_zero Go.wp_at_succ
theorem Sq.at1u {w : World} {A : Option Addr} {n c : Nat} {l : List Int} (h : Sq 1 uCells w (.slice A n c) l) {i : Nat} {x : Int} (hi : l[i]? = some x) : ∃ b off, A = some ⟨b, off, none⟩ /\ w.cell? ⟨b, off + i, none⟩ = some (.int .u8 x) := by
 obtain ⟨b, off, e, hx⟩ := h.at_ hi
 refine ⟨b, off, e, ?_⟩
 have := hx 0 _ rfl
 rw [Nat.mul_one, Nat.add_zero] at this
 exact this
set_option maxHeartbeats 2000000 in
theorem rget_calls (w : World) (A : Option Addr) (n c : Nat) (b : List Int) (at_ : Nat) (h : Sq 1 uCells w (.slice A n c) b) (hB : Bytes b) (hl : b.length <= 1000000) (ha : at_ <= 1000000) :
 Calls Tryz.prog 52 #[.slice A n c, .int .i64 at_] w (RetV w (.int .i64 (getR b at_))) := by
 have hn : n = b.length := by
  obtain ⟨_, _, _, e, e2, -⟩ := h.form
  injection e with _ e3 _; omega
 have HS := hide h; have HN := hide hn
 have hn9 : n <= 1000000 := by omega
 have hw4 : IntKind.i64.wrap ((at_ : Int) + 4) = (at_ : Int) + 4 := IntWalk.i64_in _ (by omega)
 have hi1 : IntKind.i64.wrap ((at_ : Int) + 1) = ((at_ + 1 : Nat) : Int) := by rw [IntWalk.i64_in _ (by omega)]; omega
 have hi2 : IntKind.i64.wrap ((at_ : Int) + 2) = ((at_ + 2 : Nat) : Int) := by rw [IntWalk.i64_in _ (by omega)]; omega
 have hi3 : IntKind.i64.wrap ((at_ : Int) + 3) = ((at_ + 3 : Nat) : Int) := by rw [IntWalk.i64_in _ (by omega)]; omega
 clear h hn hl
 go_enter Tryz.func52, Tryz.ntmps52
 by_cases g : n < at_ + 4
 ·have t1 : decide ((n : Int) < (at_ : Int) + 4) = true := by simp; omega
  have HV : Hid (getR b at_ = 0) := hide (by unfold getR; rw [if_pos (by have := HN.out; omega)])
  go_wp2_with fail
  go_ret
  exact ⟨by rw [HV.out]; rfl, Later.refl _⟩
 have t1 : decide ((n : Int) < (at_ : Int) + 4) = false := by simp; omega
 have HV : Hid (getR b at_ = le4 b at_) := hide (getR_pos (by have := HN.out; omega))
 obtain ⟨v0, h0⟩ : ∃ x, b[at_]? = some x := ⟨b[at_]'(by have := HN.out; omega), List.getElem?_eq_getElem _⟩
 obtain ⟨v1, h1⟩ : ∃ x, b[at_+1]? = some x := ⟨b[at_+1]'(by have := HN.out; omega), List.getElem?_eq_getElem _⟩
 obtain ⟨v2, h2⟩ : ∃ x, b[at_+2]? = some x := ⟨b[at_+2]'(by have := HN.out; omega), List.getElem?_eq_getElem _⟩
 obtain ⟨v3, h3⟩ : ∃ x, b[at_+3]? = some x := ⟨b[at_+3]'(by have := HN.out; omega), List.getElem?_eq_getElem _⟩
 obtain ⟨g0, off, rfl, y0⟩ := HS.out.at1u h0
 have x1 : ∃ b' off', some (⟨g0, off, none⟩ : Addr) = some ⟨b', off', none⟩ /\ w.cell? ⟨b', off' + (at_ + 1), none⟩ = some (.int .u8 v1) := HS.out.at1u h1
 have x2 : ∃ b' off', some (⟨g0, off, none⟩ : Addr) = some ⟨b', off', none⟩ /\ w.cell? ⟨b', off' + (at_ + 2), none⟩ = some (.int .u8 v2) := HS.out.at1u h2
 have x3 : ∃ b' off', some (⟨g0, off, none⟩ : Addr) = some ⟨b', off', none⟩ /\ w.cell? ⟨b', off' + (at_ + 3), none⟩ = some (.int .u8 v3) := HS.out.at1u h3
 obtain ⟨_, _, e1, y1⟩ := x1; injection e1 with e1; injection e1 with e1 e1'; subst e1 e1'
 obtain ⟨_, _, e2, y2⟩ := x2; injection e2 with e2; injection e2 with e2 e2'; subst e2 e2'
 obtain ⟨_, _, e3, y3⟩ := x3; injection e3 with e3; injection e3 with e3 e3'; subst e3 e3'
 have r0 := hB v0 (List.mem_of_getElem? h0); have r1 := hB v1 (List.mem_of_getElem? h1); have r2 := hB v2 (List.mem_of_getElem? h2); have r3 := hB v3 (List.mem_of_getElem? h3)
 have HE : Hid (le4 b at_ = v0 + 256 * v1 + 65536 * v2 + 16777216 * v3) := hide (by unfold le4; simp [List.getD_eq_getElem?_getD, h0, h1, h2, h3])
 have q0 : IntKind.i64.wrap v0 = v0 := IntWalk.i64_in _ (by omega)
 have q1 : IntKind.i64.wrap v1 = v1 := IntWalk.i64_in _ (by omega)
 have q2 : IntKind.i64.wrap v2 = v2 := IntWalk.i64_in _ (by omega)
 have q3 : IntKind.i64.wrap v3 = v3 := IntWalk.i64_in _ (by omega)
 have m1 : IntKind.i64.wrap (256 * v1) = 256 * v1 := IntWalk.i64_in _ (by omega)
 have m2 : IntKind.i64.wrap (65536 * v2) = 65536 * v2 := IntWalk.i64_in _ (by omega)
 have m3 : IntKind.i64.wrap (16777216 * v3) = 16777216 * v3 := IntWalk.i64_in _ (by omega)
 have s1 : IntKind.i64.wrap (v0 + 256 * v1) = v0 + 256 * v1 := IntWalk.i64_in _ (by omega)
 have s2 : IntKind.i64.wrap (v0 + 256 * v1 + 65536 * v2) = v0 + 256 * v1 + 65536 * v2 := IntWalk.i64_in _ (by omega)
 have s3 : IntKind.i64.wrap (v0 + 256 * v1 + 65536 * v2 + 16777216 * v3) = v0 + 256 * v1 + 65536 * v2 + 16777216 * v3 := IntWalk.i64_in _ (by omega)
 have j0 : (at_ : Int) < n := by omega
 have j1 : ((at_ + 1 : Nat) : Int) < n := by omega
 have j2 : ((at_ + 2 : Nat) : Int) < n := by omega
 have j3 : ((at_ + 3 : Nat) : Int) < n := by omega
 clear h0 h1 h2 h3 r0 r1 r2 r3
 go_upto_region 3 with fail
 go_quiet (fail)
 all_goals
  go_wp2_with fail
  go_ret
  exact ⟨by rw [HV.out, HE.out]; rfl, (Later.refl _).drewN _⟩
end Go.Proofs.YtncbebfhakcgdaaGreat
namespace Go.Proofs.YtncbebfhakcgdaaGreat
open Go.RowKit Go.Shelf
attribute [local go_sem ↓] Go.wp_at_zero Go.wp_at_succ
theorem str_inj {a b : List Int} (ha : Bytes a) (hb : Bytes b) (h : strOfNums a = strOfNums b) : a = b := by
 have h1 := congrArg (fun s => s.data.toList) h
 simp only [strOfNums_data] at h1
 clear h
 induction a generalizing b with
 | nil =>
   cases b with
   | nil => rfl
   | cons y b => simp at h1
 | cons x a ih =>
   cases b with
   | nil => simp at h1
   | cons y b =>
     simp only [List.map_cons, List.cons.injEq] at h1
     have hx := ha x (by simp); have hy := hb y (by simp)
     have e : x.toNat = y.toNat := by
      have := congrArg UInt8.toNat h1.1
      simp at this
      omega
     rw [ih (fun z hz => ha z (by simp [hz])) (fun z hz => hb z (by simp [hz])) h1.2, show x = y by omega]
theorem qsR_run (b : List Int) : ∀ (f i n : Nat), (∀ t, t < n -> i + 4 * t + 4 <= b.length) -> ¬ (i + 4 * n + 4 <= b.length) -> n < f -> qsR b f i = (List.range n).map fun t => le4 b (i + 4 * t)
 | 0, _, _, _, _, h => by omega
 | f + 1, i, n, h, h2, hf => by
   unfold qsR
   cases n with
   | zero => rw [if_neg (by omega)]; rfl
   | succ n =>
     rw [if_pos (by have := h 0 (by omega); omega), qsR_run b f (i+4) n (fun t ht => by have := h (t+1) (by omega); omega) (by omega) (by omega), List.range_succ_eq_map, List.map_cons, List.map_map]
     congr 1
     exact List.map_congr_left fun t _ => by show le4 b (i + 4 + 4 * t) = le4 b (i + 4 * (t + 1)); rw [show i + 4 + 4 * t = i + 4 * (t + 1) by omega]
theorem qsR_le (b : List Int) : ∀ (f i : Nat), (qsR b f i).length <= f
 | 0, _ => by unfold qsR; simp
 | f + 1, i => by
   unfold qsR
   split
   ·have := qsR_le b f (i+4); rw [List.length_cons]; omega
   ·simp
theorem parse_qlen (b : List Int) : (parse b).qtys.length <= 10 := by
 unfold parse
 dsimp only
 split
 ·simp
 ·split
  ·simp
  ·split
   ·simp
   ·split
    ·exact qsR_le b 10 6
    ·simp
theorem conv_bytes {w : World} {A : Option Addr} {n c : Nat} {l : List Int} (h : Sq 1 uCells w (.slice A n c) l) (h0 : l ≠ []) : (convert 45 9 (.slice A n c)).run Tryz.prog w = .ok (.string (strOfNums l)) w := by
 have hn : l.length = n := by
  obtain ⟨_, _, _, e, e2, -⟩ := h.form
  injection e with _ e3 _; omega
 have hp : 0 < l.length := List.length_pos_iff.2 h0
 obtain ⟨g, off, rfl, -⟩ := h.at1u (i := 0) (List.getElem?_eq_getElem hp)
 refine run_convert_bytes_arg w 45 5 Tryz.underlying45 Tryz.underlying5 g off n c l hn (fun i hi => ?_) 9 Tryz.underlying9
 have hx : l[i]? = some (l.getD i 0) := by rw [List.getD_eq_getElem?_getD, List.getElem?_eq_getElem (by omega)]; rfl
 obtain ⟨_, _, e, hc⟩ := h.at1u hx
 injection e with e; injection e with e1 e2; subst e1 e2
 exact hc
theorem encV_ne {o : POp} {x : List Int} (h : encV o = some x) : x ≠ [] := by
 unfold encV at h
 split at h
 ·injection h with h
  rw [<- h]
  unfold encB
  split <;> simp
 ·cases h
theorem own_nil0 {w : World} {base : Nat} {e : TypeId} {size n m c : Nat} {A : Option Addr} {xs : List Value} (h : w.ownsRow base e size (.slice A n c) m xs) : A = none -> c = 0 := by
 rintro rfl
 obtain ⟨-, h⟩ := h
 rcases h with ⟨h1, h2⟩ | ⟨g, cap, cur, h1, -⟩
 ·injection h1 with _ _ h4
 ·injection h1 with h1; cases h1
theorem str_ne {a b : List Int} (ha : Bytes a) (hb : Bytes b) (h : ¬ a = b) : ((strOfNums a).toList == (strOfNums b).toList) = false := by
 rw [beq_eq_false_iff_ne]
 intro e
 apply h
 rw [ByteArray.toList_eq, ByteArray.toList_eq] at e
 refine str_inj ha hb ?_
 unfold strOfNums at e ⊢
 simp only at e
 rw [e]
theorem Bytes.cons {x : Int} {l : List Int} (h : 0 <= x /\ x < 256) (k : Bytes l) : Bytes (x :: l) := fun y hy => (List.mem_cons.1 hy).elim (fun e => e ▸ h) (k y)
theorem encV_bytes {o : POp} {x : List Int} (h : encV o = some x) : Bytes x := by
 obtain ⟨h1, h2⟩ := encV_eq h
 obtain ⟨hp, hl, hn⟩ := encOk_iff.1 h1
 have hk := (plainB_iff.1 hp).1
 rw [<- h2]
 unfold encB
 split
 ·exact Bytes.cons (by omega) ((num4_bytes _).append (Bytes.cons (by omega) (nums_bytes _)))
 ·exact Bytes.cons (by omega) (nums_bytes _)
structure DS (w0 w : World) (g2 g3 : Nat) (vs : List Value) : Prop where
 r3 : Row w g3 31 vs
 r2 : Row w g2 31 [.int .i64 0, .int .i64 0, .int .i64 0, .int .i64 0, .int .i64 0, .int .i64 0, .int .i64 0, .int .i64 0, .slice none 0 0]
 lt : Later w0 w
 h2 : w0.heap.size <= g2
 h3 : w0.heap.size <= g3
 n23 : g2 ≠ g3
theorem DS.put {w0 w : World} {g2 g3 : Nat} {vs : List Value} (h : DS w0 w g2 g3 vs) (i : Nat) (v : Value) : DS w0 (w.setCell ⟨g3, i, none⟩ v) g2 g3 (vs.set i v) :=
 ⟨h.r3.set_ i v, h.r2.only (Only.one _ _ _ _) h.n23, h.lt.only (Only.one _ _ _ _) h.h3, h.h2, h.h3, h.n23⟩
theorem DS.later {w0 w w' : World} {g2 g3 : Nat} {vs : List Value} (h : DS w0 w g2 g3 vs) (hb : Later w w') : DS w0 w' g2 g3 vs :=
 ⟨h.r3.later hb, h.r2.later hb, h.lt.trans hb, h.h2, h.h3, h.n23⟩
theorem DS.grown {w0 w w' : World} {g2 g3 : Nat} {vs : List Value} {v : Value} {n : Nat} {xs : List Value} (h : DS w0 w g2 g3 vs) (hg : w.grownBy w' v.ownBlock) (ho : w.ownsRow w0.heap.size 3 1 v n xs) : DS w0 w' g2 g3 vs := by
 have e2 := own_box ho h.r2 (by decide)
 have e3 := own_box ho h.r3 (by decide)
 exact ⟨h.r3.grown hg (fun e => e3 g3 e.symm rfl), h.r2.grown hg (fun e => e2 g2 e.symm rfl), h.lt.grown hg (fun k hk => (World.ownsRow.lt ho k hk).1), h.h2, h.h3, h.n23⟩
def ParsedAt (w0 : World) (g2 g3 : Nat) (o : POp) (w' : World) : Prop := ∃ Aq nq cq, DS w0 w' g2 g3 [.int .i64 o.kind, .int .i64 o.ord.id, .int .i64 o.ord.item, .int .i64 o.ord.due, .int .i64 o.ord.qty, .int .i64 o.id, .int .i64 o.period, .int .i64 o.qty, .slice Aq nq cq] /\ w'.ownsRow w0.heap.size 3 1 (.slice Aq nq cq) o.qtys.length (o.qtys.flatMap iCells)
set_option maxHeartbeats 2000000 in
theorem rdec_calls (w : World) (A : Option Addr) (n c : Nat) (b : List Int) (h : Sq 1 uCells w (.slice A n c) b) (hB : Bytes b) (hl : b.length <= 1000000) :
 Calls Tryz.prog 21 #[.slice A n c] w (DecP w (decV b)) := by
 have hn : n = b.length := by
  obtain ⟨_, _, _, e, e2, -⟩ := h.form
  injection e with _ e3 _; omega
 have HS := hide h; have HN := hide hn; have HB := hide hB
 have hn9 : n <= 1000000 := by omega
 clear h hn hB hl
 obtain ⟨W0, hW0⟩ : ∃ W0, W0 = (w.alloc (Obj.cells #[Value.int .i64 0, Value.int .i64 0, Value.int .i64 0, Value.int .i64 0, Value.int .i64 0, Value.int .i64 0, Value.int .i64 0, Value.int .i64 0, Value.slice none 0 0] 31)) := ⟨_, rfl⟩
 obtain ⟨hb0, r0, hsz0⟩ := boxes1 w [.int .i64 0, .int .i64 0, .int .i64 0, .int .i64 0, .int .i64 0, .int .i64 0, .int .i64 0, .int .i64 0, .slice none 0 0] 31 hW0
 have B0 := hide hb0; have HW0 := hide hW0; have HSZ0 := hide hsz0
 have R0 := hide r0
 clear hb0 hW0 hsz0 r0
 go_enter Tryz.func21, Tryz.ntmps21
 go_upto_region 1 with fail
 rw [<- HW0.out]
 have rz := R0.out
 have q0 := rz.cell (i := 0) rfl; have qz0 := rz.frozen 0; have q1 := rz.cell (i := 1) rfl; have qz1 := rz.frozen 1; have q2 := rz.cell (i := 2) rfl; have qz2 := rz.frozen 2; have q3 := rz.cell (i := 3) rfl; have qz3 := rz.frozen 3; have q4 := rz.cell (i := 4) rfl; have qz4 := rz.frozen 4; have q5 := rz.cell (i := 5) rfl; have qz5 := rz.frozen 5; have q6 := rz.cell (i := 6) rfl; have qz6 := rz.frozen 6; have q7 := rz.cell (i := 7) rfl; have qz7 := rz.frozen 7; have q8 := rz.cell (i := 8) rfl; have qz8 := rz.frozen 8
 clear rz
 by_cases g1 : n < 1
 ·have t1 : decide ((n : Int) < 1) = true := by simp; omega
  have HV : Hid (decV b = none) := hide (by unfold decV; rw [if_neg (by have := HN.out; omega)])
  go_wp2_with fail
  refine bodyPost_ret (results_opt rfl rfl rfl (R0.out.put9 _ _ _ _ _ _ _ _ _ )) rfl ?_
  exact ⟨B0.out.only (only9 _ _ _ _ _ _ _ _ _ _ ) (by omega), by rw [HV.out]; rfl⟩
 have t1 : decide ((n : Int) < 1) = false := by simp; omega
 by_cases g40 : 40 < n
 ·have t2 : decide ((40 : Int) < (n : Int)) = true := by simp; omega
  have HV : Hid (decV b = none) := hide (by unfold decV; rw [if_neg (by have := HN.out; omega)])
  go_wp2_with fail
  refine bodyPost_ret (results_opt rfl rfl rfl (R0.out.put9 _ _ _ _ _ _ _ _ _ )) rfl ?_
  exact ⟨B0.out.only (only9 _ _ _ _ _ _ _ _ _ _ ) (by omega), by rw [HV.out]; rfl⟩
 have t2 : decide ((40 : Int) < (n : Int)) = false := by simp; omega
 obtain ⟨k, hk⟩ : ∃ x, b[0]? = some x := ⟨b[0]'(by have := HN.out; omega), List.getElem?_eq_getElem _⟩
 obtain ⟨g0, off, rfl, y0⟩ := (HS.out.later B0.out).at1u hk
 rw [Nat.add_zero] at y0
 have hkr := HB.out k (List.mem_of_getElem? hk)
 have hwk : IntKind.i64.wrap k = k := IntWalk.i64_in _ (by omega)
 have HK : Hid (b.getD 0 0 = k) := hide (by rw [List.getD_eq_getElem?_getD, hk]; rfl)
 have h00 : (0 : Int) < n := by omega
 clear hk hkr
 have HGET : Hid (∀ (W : World) (i : Nat), Later W0 W -> i <= 1000000 -> Calls Tryz.prog 52 #[.slice (some ⟨g0, off, none⟩) n c, .int .i64 (i : Int)] W (RetV W (.int .i64 (getR b i)))) := hide (fun W i hW hi => rget_calls W _ n c b i (HS.out.later (B0.out.trans hW)) HB.out (by have := HN.out; omega) hi)
 have HG1 : Hid (∀ W, Later W0 W -> Calls Tryz.prog 52 #[.slice (some ⟨g0, off, none⟩) n c, .int .i64 1] W (RetV W (.int .i64 (getR b 1)))) := hide (fun W hW => HGET.out W 1 hW (by omega))
 have HG5 : Hid (∀ W, Later W0 W -> Calls Tryz.prog 52 #[.slice (some ⟨g0, off, none⟩) n c, .int .i64 5] W (RetV W (.int .i64 (getR b 5)))) := hide (fun W hW => HGET.out W 5 hW (by omega))
 have HG9 : Hid (∀ W, Later W0 W -> Calls Tryz.prog 52 #[.slice (some ⟨g0, off, none⟩) n c, .int .i64 9] W (RetV W (.int .i64 (getR b 9)))) := hide (fun W hW => HGET.out W 9 hW (by omega))
 have HG13 : Hid (∀ W, Later W0 W -> Calls Tryz.prog 52 #[.slice (some ⟨g0, off, none⟩) n c, .int .i64 13] W (RetV W (.int .i64 (getR b 13)))) := hide (fun W hW => HGET.out W 13 hW (by omega))
 go_upto_region 4 with fail
 obtain ⟨g3, hg3⟩ : ∃ g, g = W0.heap.size := ⟨_, rfl⟩
 obtain ⟨W1, hW1⟩ : ∃ W, W = W0.alloc (Obj.cells #[Value.int .i64 k, Value.int .i64 0, Value.int .i64 0, Value.int .i64 0, Value.int .i64 0, Value.int .i64 0, Value.int .i64 0, Value.int .i64 0, Value.slice none 0 0] 31) := ⟨_, rfl⟩
 have HD1 : Hid (DS w W1 w.heap.size g3 [.int .i64 k, .int .i64 0, .int .i64 0, .int .i64 0, .int .i64 0, .int .i64 0, .int .i64 0, .int .i64 0, .slice none 0 0]) := hide (by
  have hz : Row W1 g3 31 [.int .i64 k, .int .i64 0, .int .i64 0, .int .i64 0, .int .i64 0, .int .i64 0, .int .i64 0, .int .i64 0, .slice none 0 0] := by rw [hg3, hW1]; exact Row.new _ _ _
  have hs0 := B0.out.size
  have hs1 : W0.heap.size = w.heap.size + 1 := HSZ0.out
  rw [hW1] at hz ⊢
  exact ⟨hz, R0.out.alloc _, B0.out.alloc _, Nat.le_refl _, by omega, by omega⟩)
 have HL1 : Hid (Later W0 W1) := hide (by rw [hW1]; exact (Later.refl _).alloc _)
 rw [<- hg3, <- hW1]
 have HG3 := hide hg3
 clear hW1 hg3 y0 hwk h00 t1 t2 q0 qz0 q1 qz1 q2 qz2 q3 qz3 q4 qz4 q5 qz5 q6 qz6 q7 qz7 q8 qz8
 obtain ⟨o, ho⟩ : ∃ o, o = parse b := ⟨_, rfl⟩
 have HO := hide ho
 clear ho
 have x0 := HD1.out.r3.cell (i := 0) rfl
 go_upto_block 0 with fail
 go_cut [] (fun wx => ParsedAt w w.heap.size g3 o wx)
 case first =>
  by_cases k1 : k = 1
  ·subst k1
   go_wp2_with (first | (go_at_call 52; (with_reducible refine (HG1.out _ HL1.out).mono ?_); rintro e z1 ⟨rfl, b1⟩) | (go_at_call 52; (with_reducible refine (HG5.out _ (HL1.out.trans b1)).mono ?_); rintro e z5 ⟨rfl, b5⟩) | (go_at_call 52; (with_reducible refine (HG9.out _ ((HL1.out.trans b1).trans b5)).mono ?_); rintro e z9 ⟨rfl, b9⟩) | (go_at_call 52; (with_reducible refine (HG13.out _ (((HL1.out.trans b1).trans b5).trans b9)).mono ?_); rintro e z13 ⟨rfl, b13⟩; have s4 := HD1.out.later (((b1.trans b5).trans b9).trans b13); have y1 := s4.r3.cell (i := 1) rfl; have yz1 := s4.r3.frozen 1; have y2 := s4.r3.cell (i := 2) rfl; have yz2 := s4.r3.frozen 2; have y3 := s4.r3.cell (i := 3) rfl; have yz3 := s4.r3.frozen 3; have y4 := s4.r3.cell (i := 4) rfl; have yz4 := s4.r3.frozen 4; have HS4 := hide s4; clear s4))
   go_wp2_with fail
   go_meet
   have HPE := (show parse b = ⟨1, ⟨getR b 1, getR b 5, getR b 9, getR b 13⟩, 0, 0, 0, []⟩ by unfold parse; dsimp only; rw [if_pos HK.out])
   refine ⟨none, 0, 0, ?_, ?_⟩
   ·rw [HO.out, HPE]; exact ((((HS4.out.put 1 _).put 2 _).put 3 _).put 4 _)
   ·rw [HO.out, HPE]; exact World.ownsRow_nil _ _ _ _
  have t1 : (k == 1) = false := by simpa using k1
  by_cases k2 : k = 2
  ·subst k2
   go_wp2_with (go_at_call 52; (with_reducible refine (HG1.out _ HL1.out).mono ?_); rintro e z1 ⟨rfl, b1⟩; have s4 := HD1.out.later b1; have y5 := s4.r3.cell (i := 5) rfl; have yz5 := s4.r3.frozen 5; have HS4 := hide s4; clear s4)
   go_wp2_with fail
   go_meet
   have HPE := (show parse b = ⟨2, z0, getR b 1, 0, 0, []⟩ by unfold parse; dsimp only; rw [if_neg (by rw [HK.out]; omega), if_pos HK.out])
   refine ⟨none, 0, 0, ?_, ?_⟩
   ·rw [HO.out, HPE]; exact (HS4.out.put 5 _)
   ·rw [HO.out, HPE]; exact World.ownsRow_nil _ _ _ _
  have t2 : (k == 2) = false := by simpa using k2
  by_cases k3 : k = 3
  ·subst k3
   go_wp2_with (first | (go_at_call 52; (with_reducible refine (HG1.out _ HL1.out).mono ?_); rintro e z1 ⟨rfl, b1⟩; have s4 := HD1.out.later b1; have y6 := s4.r3.cell (i := 6) rfl; have yz6 := s4.r3.frozen 6; have HS4 := hide s4; clear s4) | (go_at_call 52; (with_reducible refine (HG5.out _ (Later.only (HL1.out.trans b1) (Only.one g3 _ 6 _) (by rw [HG3.out]; exact Nat.le_refl _))).mono ?_); rintro e z5 ⟨rfl, b5⟩; have s5 := (HS4.out.put 6 (.int .i64 (getR b 1))).later b5; clear y6 yz6; have y7 := s5.r3.cell (i := 7) rfl; have yz7 := s5.r3.frozen 7; have HS5 := hide s5; clear s5))
   go_wp2_with fail
   go_meet
   have HPE := (show parse b = ⟨3, z0, 0, getR b 1, getR b 5, []⟩ by unfold parse; dsimp only; rw [if_neg (by rw [HK.out]; omega), if_neg (by rw [HK.out]; omega), if_pos HK.out])
   refine ⟨none, 0, 0, ?_, ?_⟩
   ·rw [HO.out, HPE]; exact (HS5.out.put 7 _)
   ·rw [HO.out, HPE]; exact World.ownsRow_nil _ _ _ _
  have t3 : (k == 3) = false := by simpa using k3
  by_cases k5 : k = 5
  ·subst k5
   go_wp2_with (go_at_call 52; (with_reducible refine (HG1.out _ HL1.out).mono ?_); rintro e z1 ⟨rfl, b1⟩; have s4 := HD1.out.later b1; have y6 := s4.r3.cell (i := 6) rfl; have yz6 := s4.r3.frozen 6; have HS4 := hide s4; have HLz := hide (HL1.out.trans b1); clear s4 b1)
   obtain ⟨W6, hW6⟩ : ∃ W, W = z1.setCell ⟨g3, 6, none⟩ (.int .i64 (getR b 1)) := ⟨_, rfl⟩
   have HD6 : Hid (DS w W6 w.heap.size g3 [.int .i64 5, .int .i64 0, .int .i64 0, .int .i64 0, .int .i64 0, .int .i64 0, .int .i64 (getR b 1), .int .i64 0, .slice none 0 0]) := hide (by rw [hW6]; exact HS4.out.put 6 _)
   have HL6 : Hid (Later W0 W6) := hide (by rw [hW6]; exact Later.only HLz.out (Only.one g3 _ 6 _) (by rw [HG3.out]; exact Nat.le_refl _))
   rw [<- hW6]
   clear hW6 y6 yz6 HS4 HLz
   go_loopw [5] (fun iv wr => ∃ (j p : Nat) (A5 : Option Addr) (n5 c5 : Nat), iv = .int .i64 (p : Int) /\ Hid (p = 6 + 4 * j) /\ Hid (∀ t, t < j -> 6 + 4 * t + 4 <= n) /\ Hid (DS w wr w.heap.size g3 [.int .i64 5, .int .i64 0, .int .i64 0, .int .i64 0, .int .i64 0, .int .i64 0, .int .i64 (getR b 1), .int .i64 0, .slice A5 n5 c5]) /\ Hid (wr.ownsRow W0.heap.size 3 1 (.slice A5 n5 c5) (qsT b j).length ((qsT b j).flatMap iCells)) /\ Hid (Later W0 wr)) (fun iv _ => (46 - intOf iv).toNat)
   case atStart => exact ⟨0, 6, none, 0, 0, rfl, hide rfl, hide (fun t ht => by omega), HD6, hide (World.ownsRow_nil _ _ _ _), HL6⟩
   case round =>
    obtain ⟨j, p, A5, n5, c5, rfl, HP, HOK, HS, HOWN, HL⟩ := hrel
    have HP40 : Hid (p <= 40) := hide (by
     have hp := HP.out
     rcases Nat.eq_zero_or_pos j with h | h
     ·omega
     ·have := HOK.out (j-1) (by omega); omega)
    have hp46 := HP40.out
    have hw4 : IntKind.i64.wrap ((p : Int) + 4) = (p : Int) + 4 := IntWalk.i64_in _ (by omega)
    by_cases gp : p + 4 <= n
    ·have t6 : decide ((p : Int) + 4 <= (n : Int)) = true := by simp; omega
     have HPN := hide gp
     have HP9 : Hid (p <= 1000000) := hide (by omega)
     have HGP : Hid (getR b p = le4 b p) := hide (getR_pos (by have := HN.out; omega))
     obtain ⟨L, hL⟩ : ∃ L, L = qsT b j := ⟨_, rfl⟩
     have HLQ := hide hL
     have HLL : Hid (L.length <= 30) := hide (by rw [hL, qsT_len]; have := HP.out; omega)
     rw [<- hL] at HOWN
     have HT1 : Hid (∀ w', Later wr w' -> w'.cell? ⟨g3, 8, none⟩ = some (.slice A5 n5 c5)) := hide fun w' hb => (HS.out.r3.later hb).cell rfl
     have hmx : Tryz.prog.follows .mixedOrders = true := by kernel_rfl
     clear gp hL
     go_upto_region 17 with fail
     refine wp_region_N (fun w' => w'.cell? ⟨g3, 8, none⟩ = some (.slice A5 n5 c5)) [8] hmx (HT1.out _ lt_) (fun hHeld => ?_)
     refine tkB 61 0 ?_
     refine tkB 62 1 ?_
     refine tkB 63 2 ?_
     refine tkB 64 3 ?_
     refine wpAnyN_ready (rs := [4]) (by kernel_rfl) (by simp) ?_
     refine AllReadyN.held rfl (by rfl) (fun K hK => ?_) AllReadyN.nil
     go_simp
     refine (HGET.out _ p (HL.out.trans lt_) HP9.out).mono ?_
     rintro e w4 ⟨rfl, b4⟩
     have l4 : Later wr w4 := Later.trans (show Later wr wr.drew from (Later.refl _).drew) b4
     have HS4 := hide (HS.out.later l4)
     have HOW4 := hide (own_later HOWN.out l4)
     have HT4 : Hid (∀ w', Later w4 w' -> w'.cell? ⟨g3, 8, none⟩ = some (.slice A5 n5 c5)) := hide fun w' hb => (HS4.out.r3.later hb).cell rfl
     clear b4
     refine hK.out _ _ ?_ (fun hHeld => ?_)
     ·exact HT4.out _ (Later.refl _)
     clear hK K
     try simp only [Act.put, s1_, s2_, s3_]
     refine wpAnyN_ready (rs := [5]) (by kernel_rfl) (by simp) ?_
     refine AllReadyN.held rfl (by rfl) (fun K hK => ?_) AllReadyN.nil
     go_simp
     refine hK.out _ _ ?_ (fun hHeld => ?_)
     ·exact HT4.out _ lt_
     clear hK K
     try simp only [Act.put, s1_, s2_, s3_]
     refine wpAnyN_ready (rs := [6]) (by kernel_rfl) (by simp) ?_
     refine AllReadyN.held rfl (by rfl) (fun K hK => ?_) AllReadyN.nil
     have HNR : Hid (Row (w4.alloc (Obj.cells #[Value.int .i64 (getR b p)] 3)) w4.heap.size 3 [.int .i64 (getR b p)]) := hide (Row.new w4 _ _)
     have HBS : Hid (W0.heap.size <= (w4.alloc (Obj.cells #[Value.int .i64 (getR b p)] 3)).heap.size) := hide (((HL.out.trans l4).alloc _).size)
     have HOWA : Hid ((w4.alloc (Obj.cells #[Value.int .i64 (getR b p)] 3)).ownsRow W0.heap.size 3 1 (.slice A5 n5 c5) L.length (L.flatMap iCells)) := hide (World.ownsRow.alloc HOW4.out _)
     refine wp_append_own_ _ _ 23 rfl W0.heap.size 3 _ 1 8 Tryz.underlying23 info_int rfl (by omega) (by omega) (.slice A5 n5 c5) L.length _ (by rfl) HOWA.out ⟨w4.heap.size, 0, none⟩ 1 1 [.int .i64 (getR b p)] (by rfl) rfl (fun k u hk => by rw [addr_add, Nat.zero_add]; exact HNR.out.cell hk) (by simp [Value.oneCell']) (by have := HLL.out; omega) HBS.out ?_
     intro v' w9 hown hg hblk
     obtain ⟨A6, c6, rfl⟩ := own_form hown
     have HOW9 := hide hown
     have HG9 : Hid (w4.grownBy w9 (Value.slice A5 n5 c5).ownBlock) := hide (grown_trans_alloc hg)
     have HS9 := hide (HS4.out.grown HG9.out (own_weaken HOW4.out B0.out.size))
     have HL9 : Hid (Later W0 w9) := hide ((HL.out.trans l4).grown HG9.out (fun k hk => (World.ownsRow.lt HOW4.out k hk).1))
     clear hown hg hblk HNR HBS HOWA
     refine hK.out _ _ ?_ (fun hHeld => ?_)
     ·exact HS9.out.r3.cell rfl
     clear hK K
     try simp only [Act.put, s1_, s2_, s3_]
     refine tkB 68 7 ?_
     refine wpAnyN_ready (rs := [8]) (by kernel_rfl) (by simp) ?_
     refine AllReadyN.free rfl (by rfl) (by kernel_rfl) (fun K hK => ?_) AllReadyN.nil
     have y8 := HS9.out.r3.cell (i := 8) rfl
     have yz8 := HS9.out.r3.frozen 8
     go_simp
     refine hK.out _ _ ?_
     clear hK K
     try simp only [Act.put, s1_, s2_, s3_]
     refine wpAnyN_done (by kernel_rfl) ?_ _
     clear hHeld y8 yz8 l4
     go_wp2_with fail
     refine ⟨⟨j+1, p+4, A6, L.length + 1, c6, by go_num, hide (by rw [HP.out]; omega), hide ?_, hide ?_, hide ?_, hide ?_⟩, by simp [intOf]; have := HPN.out; have := HP40.out; omega⟩
     ·intro t ht
      by_cases e : t = j
      ·rw [e, <- HP.out]; exact HPN.out
      ·exact HOK.out t (by omega)
     ·exact HS9.out.put 8 (.slice A6 (L.length + 1) c6)
     ·rw [qsT_succ, <- HLQ.out, List.length_append, List.flatMap_append]
      rw [<- HP.out, <- HGP.out]
      exact own_only HOW9.out (Only.one _ _ _ _) (own_box HOW9.out HS9.out.r3 (by decide))
     ·exact Later.only HL9.out (Only.one g3 _ 8 _) (by rw [HG3.out]; exact Nat.le_refl _)
    ·have t6 : decide ((p : Int) + 4 <= (n : Int)) = false := by simp; omega
     have HPN := hide gp
     clear gp hp46
     go_wp2_with fail
     go_meet
     have HPE : parse b = ⟨5, z0, 0, getR b 1, 0, qsT b j⟩ := by
      unfold parse; dsimp only
      rw [if_neg (by rw [HK.out]; omega), if_neg (by rw [HK.out]; omega), if_neg (by rw [HK.out]; omega), if_pos HK.out]
      rw [qsR_run b 10 6 j (fun t ht => by have := HOK.out t ht; have := HN.out; omega) (by have := HPN.out; have := HN.out; have := HP.out; omega) (by have := HP40.out; have := HP.out; omega)]
      rfl
     refine ⟨A5, n5, c5, ?_, ?_⟩
     ·rw [HO.out, HPE]; exact HS.out
     ·rw [HO.out, HPE]; exact own_weaken HOWN.out B0.out.size
  ·have t5 : (k == 5) = false := by simpa using k5
   go_wp2_with fail
   go_meet
   have HPE := (show parse b = ⟨k, z0, 0, 0, 0, []⟩ by unfold parse; dsimp only; rw [if_neg (by rw [HK.out]; exact k1), if_neg (by rw [HK.out]; exact k2), if_neg (by rw [HK.out]; exact k3), if_neg (by rw [HK.out]; exact k5), HK.out])
   refine ⟨none, 0, 0, ?_, ?_⟩
   ·rw [HO.out, HPE]; exact HD1.out
   ·rw [HO.out, HPE]; exact World.ownsRow_nil _ _ _ _
 case rest =>
  rename World => wx
  obtain ⟨Aq, nq, cq, hd, hq⟩ := hcut
  have HD := hide hd; have HOWN := hide hq
  clear hd hq
  have HOL : Hid (o.qtys.length <= 10) := hide (by rw [HO.out]; exact parse_qlen b)
  have HSQ : Hid (Sq 1 iCells wx (.slice Aq nq cq) o.qtys) := hide (Sq.of_own iCells_ln HOWN.out)
  have HZ : Hid (Aq = none -> cq = 0) := hide (own_nil0 HOWN.out)
  obtain ⟨r, hr⟩ : ∃ r, encV o = r := ⟨_, rfl⟩
  have HR := hide hr
  have HC : Hid (∀ W, Later wx W -> Calls Tryz.prog 19 #[.agg #[.int .i64 o.kind, .int .i64 o.ord.id, .int .i64 o.ord.item, .int .i64 o.ord.due, .int .i64 o.ord.qty, .int .i64 o.id, .int .i64 o.period, .int .i64 o.qty, .slice Aq nq cq]] W (EncP W r)) := hide (fun W hW => by
   have h2 := rencode_calls W Aq nq cq o (HSQ.out.later hW) HZ.out (by have := HOL.out; omega)
   rw [hr] at h2; exact h2)
  clear hr
  have s := HD.out
  have y0 := s.r3.cell (i := 0) rfl; have y1 := s.r3.cell (i := 1) rfl; have y2 := s.r3.cell (i := 2) rfl; have y3 := s.r3.cell (i := 3) rfl; have y4 := s.r3.cell (i := 4) rfl; have y5 := s.r3.cell (i := 5) rfl; have y6 := s.r3.cell (i := 6) rfl; have y7 := s.r3.cell (i := 7) rfl; have y8 := s.r3.cell (i := 8) rfl
  have q0 := s.r2.cell (i := 0) rfl; have qz0 := s.r2.frozen 0; have q1 := s.r2.cell (i := 1) rfl; have qz1 := s.r2.frozen 1; have q2 := s.r2.cell (i := 2) rfl; have qz2 := s.r2.frozen 2; have q3 := s.r2.cell (i := 3) rfl; have qz3 := s.r2.frozen 3; have q4 := s.r2.cell (i := 4) rfl; have qz4 := s.r2.frozen 4; have q5 := s.r2.cell (i := 5) rfl; have qz5 := s.r2.frozen 5; have q6 := s.r2.cell (i := 6) rfl; have qz6 := s.r2.frozen 6; have q7 := s.r2.cell (i := 7) rfl; have qz7 := s.r2.frozen 7; have q8 := s.r2.cell (i := 8) rfl; have qz8 := s.r2.frozen 8
  clear s
  cases r with
  | none =>
    have HV : Hid (decV b = none) := hide (by unfold decV; rw [if_neg]; rintro ⟨-, -, h⟩; rw [<- HO.out, HR.out] at h; cases h)
    go_wp2_with (go_at_call 19; (refine (HC.out _ (Later.refl _)).mono ?_); rintro e z ⟨bz, rfl⟩; replace q0 := Later.cell bz q0; replace qz0 := (HD.out.r2.later bz).frozen 0; replace q1 := Later.cell bz q1; replace qz1 := (HD.out.r2.later bz).frozen 1; replace q2 := Later.cell bz q2; replace qz2 := (HD.out.r2.later bz).frozen 2; replace q3 := Later.cell bz q3; replace qz3 := (HD.out.r2.later bz).frozen 3; replace q4 := Later.cell bz q4; replace qz4 := (HD.out.r2.later bz).frozen 4; replace q5 := Later.cell bz q5; replace qz5 := (HD.out.r2.later bz).frozen 5; replace q6 := Later.cell bz q6; replace qz6 := (HD.out.r2.later bz).frozen 6; replace q7 := Later.cell bz q7; replace qz7 := (HD.out.r2.later bz).frozen 7; replace q8 := Later.cell bz q8; replace qz8 := (HD.out.r2.later bz).frozen 8)
    refine bodyPost_ret (results_opt rfl rfl rfl ((HD.out.r2.later bz).put9 _ _ _ _ _ _ _ _ _ )) rfl ?_
    exact ⟨(HD.out.lt.trans bz).only (only9 _ _ _ _ _ _ _ _ _ _ ) (Nat.le_refl _), by rw [HV.out]; rfl⟩
  | some x =>
    go_upto_region 19 with (go_at_call 19; (refine (HC.out _ (Later.refl _)).mono ?_); rintro e z ⟨bz, A9, n9, c9, rfl, o9⟩; replace y0 := Later.cell bz y0; replace q0 := Later.cell bz q0; replace qz0 := (HD.out.r2.later bz).frozen 0; replace y1 := Later.cell bz y1; replace q1 := Later.cell bz q1; replace qz1 := (HD.out.r2.later bz).frozen 1; replace y2 := Later.cell bz y2; replace q2 := Later.cell bz q2; replace qz2 := (HD.out.r2.later bz).frozen 2; replace y3 := Later.cell bz y3; replace q3 := Later.cell bz q3; replace qz3 := (HD.out.r2.later bz).frozen 3; replace y4 := Later.cell bz y4; replace q4 := Later.cell bz q4; replace qz4 := (HD.out.r2.later bz).frozen 4; replace y5 := Later.cell bz y5; replace q5 := Later.cell bz q5; replace qz5 := (HD.out.r2.later bz).frozen 5; replace y6 := Later.cell bz y6; replace q6 := Later.cell bz q6; replace qz6 := (HD.out.r2.later bz).frozen 6; replace y7 := Later.cell bz y7; replace q7 := Later.cell bz q7; replace qz7 := (HD.out.r2.later bz).frozen 7; replace y8 := Later.cell bz y8; replace q8 := Later.cell bz q8; replace qz8 := (HD.out.r2.later bz).frozen 8; have HO9 := hide o9; clear o9)
    have hv1 := conv_bytes (Sq.of_own uCells_len HO9.out) (encV_ne HR.out)
    have hv2 := conv_bytes (HS.out.later (HD.out.lt.trans bz)) (by intro e; have h1 := HN.out; rw [e, List.length_nil] at h1; omega)
    by_cases hxb : x = b
    ·have HV : Hid (decV b = some o) := hide (by
      have h1 := HR.out
      unfold decV
      rw [if_pos ⟨by have := HN.out; omega, by have := HN.out; omega, by rw [<- HO.out, h1, hxb]⟩, HO.out])
     rw [hxb] at hv1
     clear hxb
     go_wp2_with fail
     refine bodyPost_ret (results_opt rfl rfl rfl ((HD.out.r2.later bz).put9 _ _ _ _ _ _ _ _ _ )) rfl ?_
     have oo := only9 (W := z) w.heap.size (.int .i64 o.kind) (.int .i64 o.ord.id) (.int .i64 o.ord.item) (.int .i64 o.ord.due) (.int .i64 o.ord.qty) (.int .i64 o.id) (.int .i64 o.period) (.int .i64 o.qty) (.slice Aq nq cq)
     refine ⟨(HD.out.lt.trans bz).only oo (Nat.le_refl _), ?_⟩
     rw [HV.out]
     exact ⟨_, _, _, rfl, own_only (own_later HOWN.out bz) oo (own_box (own_later HOWN.out bz) (HD.out.r2.later bz) (by decide))⟩
    ·have HV : Hid (decV b = none) := hide (by unfold decV; rw [if_neg]; rintro ⟨-, -, h⟩; rw [<- HO.out, HR.out] at h; injection h with h; exact hxb h)
     have hsn : ((strOfNums x).toList == (strOfNums b).toList) = false := str_ne (encV_bytes HR.out) HB.out hxb
     clear hxb
     go_wp2_with fail
     refine bodyPost_ret (results_opt rfl rfl rfl ((HD.out.r2.later bz).put9 _ _ _ _ _ _ _ _ _ )) rfl ?_
     exact ⟨(HD.out.lt.trans bz).only (only9 _ _ _ _ _ _ _ _ _ _ ) (Nat.le_refl _), by rw [HV.out]; rfl⟩
end Go.Proofs.YtncbebfhakcgdaaGreat
namespace Go.Proofs.YtncbebfhakcgdaaGreat
open Go.RowKit Go.Shelf
attribute [local go_sem ↓] Go.wp_at_zero Go.wp_at_succ
theorem EFlag.agree {w W : World} {v : Value} {q : Rat} (h : EFlag w v q) (ha : Agree w W) : EFlag W v q := by
 obtain ⟨a, A, n, c, b, A', n', c', y, e, h1, h2⟩ := h
 exact ⟨a, A, n, c, b, A', n', c', y, e, rawI_agree h1 ha, h2⟩
theorem ENum.agree {k : Nat} {w W : World} {v : Value} {q : Rat} {f : Bool} (h : ENum k w v q f) (ha : Agree w W) : ENum k W v q f := ⟨rawR_agree h.1 ha, h.2.agree ha⟩
theorem cell_agr {w W : World} {a : Addr} {v : Value} (ha : Agree w W) (h : w.cell? a = some v) : W.cell? a = some v :=
 (World.cell?_of_block (a := a) (ha a.block (World.block_lt_of_cell? w _ h))).trans h
theorem Its.agree {k : Nat} {w W : World} {v : Value} {l : List PItem} (h : Its k w v l) (ha : Agree w W) : Its k W v l := by
 obtain ⟨A, c, e, h1, h2, h3⟩ := h
 refine ⟨A, c, e, h1, h2, fun i x hi => ?_⟩
 obtain ⟨b, off, hA, e1, e2, e3, hx, m1, m2, m3⟩ := h3 i x hi
 exact ⟨b, off, hA, e1, e2, e3, fun j u hj => cell_agr ha (hx j u hj), m1.agree ha, m2.agree ha, m3.agree ha⟩
theorem BookIn.agree {w W : World} {vI vC vO vM : Value} {D : PBook} (h : BookIn w vI vC vO vM D) (ha : Agree w W) : BookIn W vI vC vO vM D :=
 {h with its := h.its.agree ha, caps := h.caps.agree ha, ords := h.ords.agree ha, mks := h.mks.agree ha }
theorem On.book {w : World} {vI vC vO vM : Value} {D : PBook} (h : BookIn w vI vC vO vM D) : On w (fun b => b < w.heap.size) (fun W => BookIn W vI vC vO vM D) := On.base fun _ ha => h.agree ha
end Go.Proofs.YtncbebfhakcgdaaGreat
namespace Go.Proofs.YtncbebfhakcgdaaGreat
open Go.RowKit Go.Shelf
attribute [local go_sem ↓] Go.wp_at_zero Go.wp_at_succ
end Go.Proofs.YtncbebfhakcgdaaGreat
namespace Go.Proofs.YtncbebfhakcgdaaGreat
open Go.RowKit Go.Shelf
attribute [local go_sem ↓] Go.wp_at_zero Go.wp_at_succ
end Go.Proofs.YtncbebfhakcgdaaGreat
namespace Go.Proofs.YtncbebfhakcgdaaGreat
open Go.RowKit Go.Shelf
attribute [local go_sem ↓] Go.wp_at_zero Go.wp_at_succ
end Go.Proofs.YtncbebfhakcgdaaGreat
namespace Go.Proofs.YtncbebfhakcgdaaGreat
open Go.RowKit Go.Shelf
attribute [local go_sem ↓] Go.wp_at_zero Go.wp_at_succ
end Go.Proofs.YtncbebfhakcgdaaGreat
namespace Go.Proofs.YtncbebfhakcgdaaGreat
open Go.RowKit Go.Shelf
attribute [local go_sem ↓] Go.wp_at_zero Go.wp_at_succ
def DZ : PBook := ⟨[], 0, 0, [], [], []⟩
theorem BookIn.zero (w : World) : BookIn w (.slice none 0 0) (.slice none 0 0) (.slice none 0 0) (.slice none 0 0) DZ :=
 ⟨⟨none, 0, rfl, by simp [DZ], by decide, fun i x hi => by simp [DZ] at hi⟩, Sq.nil _ _ _, Sq.nil _ _ _, Sq.nil _ _ _, by simp [DZ], by simp [DZ], by simp [DZ], by simp [DZ], by unfold IFit DZ; dsimp only; omega, by unfold IFit DZ; dsimp only; omega, (fun z hz => by simp [DZ] at hz), (fun z hz => by simp [DZ] at hz), (fun z hz => by simp [DZ] at hz)⟩
theorem BookIn.newD {w : World} {vI vC vO vM : Value} {D : PBook} (h : BookIn w vI vC vO vM D) : BookIn w vI (.slice none 0 0) (.slice none 0 0) (.slice none 0 0) (newD D.items D.hor) :=
 ⟨h.its, Sq.nil _ _ _, Sq.nil _ _ _, Sq.nil _ _ _, h.il, Nat.zero_le _, Nat.zero_le _, Nat.zero_le _, h.hfit, (show IFit 0 by unfold IFit; omega), (fun z hz => by cases hz), (fun z hz => by cases hz), (fun z hz => by cases hz)⟩
def ArgOp (w : World) (v : Value) : Prop := ∃ (A : Option Addr) (n c : Nat) (o : POp), v = .agg #[.int .i64 o.kind, .int .i64 o.ord.id, .int .i64 o.ord.item, .int .i64 o.ord.due, .int .i64 o.ord.qty, .int .i64 o.id, .int .i64 o.period, .int .i64 o.qty, .slice A n c] /\ Sq 1 iCells w (.slice A n c) o.qtys /\ o.ord.fit /\ (A = none -> c = 0)
def ArgBytes (w : World) (v : Value) : Prop := ∃ (A : Option Addr) (n c : Nat) (b : List Int), v = .slice A n c /\ Sq 1 uCells w (.slice A n c) b /\ Bytes b
set_option maxHeartbeats 4000000 in
theorem fewop2_calls (w : World) (Aq : Option Addr) (nq cq : Nat) (o : POp) (u : Bool) (hu : decide (nq <= 100) = u) :
 Calls Tryz.prog 11 #[.agg #[.int .i64 o.kind, .int .i64 o.ord.id, .int .i64 o.ord.item, .int .i64 o.ord.due, .int .i64 o.ord.qty, .int .i64 o.id, .int .i64 o.period, .int .i64 o.qty, .slice Aq nq cq]] w (RetV w (.bool u)) := by
 have HU := hide hu
 clear hu
 obtain ⟨W0, hW0⟩ : ∃ W0, W0 = (w.alloc (Obj.cells #[Value.int .i64 o.kind, Value.int .i64 o.ord.id, Value.int .i64 o.ord.item, Value.int .i64 o.ord.due, Value.int .i64 o.ord.qty, Value.int .i64 o.id, Value.int .i64 o.period, Value.int .i64 o.qty, Value.slice Aq nq cq] 31)) := ⟨_, rfl⟩
 have B0 := hide (show Later w W0 by rw [hW0]; exact (Later.refl _).alloc _)
 have HR0 := hide (show Row W0 w.heap.size 31 [.int .i64 o.kind, .int .i64 o.ord.id, .int .i64 o.ord.item, .int .i64 o.ord.due, .int .i64 o.ord.qty, .int .i64 o.id, .int .i64 o.period, .int .i64 o.qty, .slice Aq nq cq] by rw [hW0]; exact Row.new _ _ _)
 have HW0 := hide hW0
 clear hW0
 go_enter Tryz.func11, Tryz.ntmps11
 go_upto_region 1 with fail
 rw [<- HW0.out]
 have x8 := HR0.out.cell (i := 8) rfl
 have hu := HU.out
 go_wp2_with fail
 go_ret
 exact ⟨by first | rfl | (rw [<- HU.out]; simp; omega), B0.out⟩
end Go.Proofs.YtncbebfhakcgdaaGreat
namespace Go.Proofs.YtncbebfhakcgdaaGreat
open Go.RowKit Go.Shelf
attribute [local go_sem ↓] Go.wp_at_zero Go.wp_at_succ
def EncU (w : World) (r : Option (List Int)) (e : Ending) (w' : World) : Prop := Later w w' /\ ∃ A n c, e = .returned (.tuple #[.slice A n c, .int .i64 (if r.isSome = true then 0 else 1)]) /\ Sq 1 uCells w' (.slice A n c) (r.getD [])
theorem encU {w w' : World} {r : Option (List Int)} {e : Ending} (h : EncP w r e w') : EncU w r e w' := by
 obtain ⟨h1, h2⟩ := h
 cases r with
 | none => exact ⟨h1, none, 0, 0, h2, Sq.nil _ _ _⟩
 | some l =>
   obtain ⟨A, n, c, e1, ho⟩ := h2
   exact ⟨h1, A, n, c, e1, Sq.of_own uCells_len ho⟩
def oZ : POp := ⟨0, ⟨0, 0, 0, 0⟩, 0, 0, 0, []⟩
def DecU (w : World) (r : Option POp) (e : Ending) (w' : World) : Prop := Later w w' /\ ∃ A n c, e = .returned (.tuple #[.agg #[.int .i64 (r.getD oZ).kind, .int .i64 (r.getD oZ).ord.id, .int .i64 (r.getD oZ).ord.item, .int .i64 (r.getD oZ).ord.due, .int .i64 (r.getD oZ).ord.qty, .int .i64 (r.getD oZ).id, .int .i64 (r.getD oZ).period, .int .i64 (r.getD oZ).qty, .slice A n c], .int .i64 (if r.isSome = true then 0 else 2)]) /\ Sq 1 iCells w' (.slice A n c) (r.getD oZ).qtys
theorem decU {w w' : World} {r : Option POp} {e : Ending} (h : DecP w r e w') : DecU w r e w' := by
 obtain ⟨h1, h2⟩ := h
 cases r with
 | none => exact ⟨h1, none, 0, 0, h2, Sq.nil _ _ _⟩
 | some l =>
   obtain ⟨A, n, c, e1, ho⟩ := h2
   exact ⟨h1, A, n, c, e1, Sq.of_own iCells_ln ho⟩
set_option maxHeartbeats 2000000 in
theorem rops1_calls (w : World) (o : POp) (g g' : Nat) (A A' : Option Addr) (n n' c c' : Nat) (h : Row w g 31 [.int .i64 o.kind, .int .i64 o.ord.id, .int .i64 o.ord.item, .int .i64 o.ord.due, .int .i64 o.ord.qty, .int .i64 o.id, .int .i64 o.period, .int .i64 o.qty, .slice A n c]) (h' : Row w g' 31 [.int .i64 o.kind, .int .i64 o.ord.id, .int .i64 o.ord.item, .int .i64 o.ord.due, .int .i64 o.ord.qty, .int .i64 o.id, .int .i64 o.period, .int .i64 o.qty, .slice A' n' c']) (hq : Sq 1 iCells w (.slice A n c) o.qtys) (hq' : Sq 1 iCells w (.slice A' n' c') o.qtys) (hl : o.qtys.length <= 1000000) :
 Calls Tryz.prog 23 #[.slice (some ⟨g, 0, none⟩) 1 1, .slice (some ⟨g', 0, none⟩) 1 1] w (RetV w (.bool true)) := by
 have hn : n = o.qtys.length := by
  obtain ⟨_, _, _, e, e2, -⟩ := hq.form
  injection e with _ e3 _; omega
 have hn' : n' = o.qtys.length := by
  obtain ⟨_, _, _, e, e2, -⟩ := hq'.form
  injection e with _ e3 _; omega
 obtain rfl : n = n' := by omega
 have HLN : Hid (n <= 1000000) := hide (by omega)
 have HN := hide hn; have H := hide h; have H' := hide h'; have HQ := hide hq; have HQ' := hide hq'
 clear h h' hq hq' hn hn' hl
 go_enter Tryz.func23, Tryz.ntmps23
 go_wp2_with fail
 go_loopw [5] (fun iv wr => ∃ j : Nat, iv = .int .i64 (j : Int) /\ j <= 1 /\ Hid (Later w wr)) (fun iv _ => (1 - intOf iv).toNat)
 case atStart => exact ⟨0, rfl, by omega, hide (Later.refl _)⟩
 case round =>
  obtain ⟨j, rfl, hj, HL⟩ := hrel
  by_cases hj0 : j = 0
  ·subst hj0
   have r1 := H.out.later HL.out
   have x0 := r1.cell (i := 0) rfl; have x1 := r1.cell (i := 1) rfl; have x2 := r1.cell (i := 2) rfl; have x3 := r1.cell (i := 3) rfl; have x4 := r1.cell (i := 4) rfl; have x5 := r1.cell (i := 5) rfl; have x6 := r1.cell (i := 6) rfl; have x7 := r1.cell (i := 7) rfl; have x8 := r1.cell (i := 8) rfl
   clear r1
   go_upto_region 7 with fail
   obtain ⟨W6, hW6⟩ : ∃ W6, W6 = wr.alloc (Obj.cells #[Value.int .i64 o.kind, Value.int .i64 o.ord.id, Value.int .i64 o.ord.item, Value.int .i64 o.ord.due, Value.int .i64 o.ord.qty, Value.int .i64 o.id, Value.int .i64 o.period, Value.int .i64 o.qty, Value.slice A n c] 31) := ⟨_, rfl⟩
   obtain ⟨g6, hg6⟩ : ∃ g6, g6 = wr.heap.size := ⟨_, rfl⟩
   have bW6 : Later wr W6 := by rw [hW6]; exact (Later.refl _).alloc _
   have rg6 : Row W6 g6 31 [.int .i64 o.kind, .int .i64 o.ord.id, .int .i64 o.ord.item, .int .i64 o.ord.due, .int .i64 o.ord.qty, .int .i64 o.id, .int .i64 o.period, .int .i64 o.qty, .slice A n c] := by rw [hW6, hg6]; exact Row.new _ _ _
   rw [<- hW6, <- hg6]
   have L6 := hide (HL.out.trans bW6); have R6 := hide rg6
   clear hW6 hg6 bW6 rg6 x0 x1 x2 x3 x4 x5 x6 x7 x8
   have r2 := H'.out.later L6.out
   have x0 := r2.cell (i := 0) rfl; have x1 := r2.cell (i := 1) rfl; have x2 := r2.cell (i := 2) rfl; have x3 := r2.cell (i := 3) rfl; have x4 := r2.cell (i := 4) rfl; have x5 := r2.cell (i := 5) rfl; have x6 := r2.cell (i := 6) rfl; have x7 := r2.cell (i := 7) rfl; have x8 := r2.cell (i := 8) rfl
   clear r2
   go_upto_region 8 with fail
   obtain ⟨W7, hW7⟩ : ∃ W7, W7 = W6.alloc (Obj.cells #[Value.int .i64 o.kind, Value.int .i64 o.ord.id, Value.int .i64 o.ord.item, Value.int .i64 o.ord.due, Value.int .i64 o.ord.qty, Value.int .i64 o.id, Value.int .i64 o.period, Value.int .i64 o.qty, Value.slice A' n c'] 31) := ⟨_, rfl⟩
   obtain ⟨g7, hg7⟩ : ∃ g7, g7 = W6.heap.size := ⟨_, rfl⟩
   have bW7 : Later W6 W7 := by rw [hW7]; exact (Later.refl _).alloc _
   have rg7 : Row W7 g7 31 [.int .i64 o.kind, .int .i64 o.ord.id, .int .i64 o.ord.item, .int .i64 o.ord.due, .int .i64 o.ord.qty, .int .i64 o.id, .int .i64 o.period, .int .i64 o.qty, .slice A' n c'] := by rw [hW7, hg7]; exact Row.new _ _ _
   rw [<- hW7, <- hg7]
   have L7 := hide (L6.out.trans bW7); have R7 := hide rg7; have R67 := hide (R6.out.later bW7)
   clear hW7 hg7 bW7 rg7 x0 x1 x2 x3 x4 x5 x6 x7 x8
   have x0 := R67.out.cell (i := 0) rfl; have x1 := R67.out.cell (i := 1) rfl; have x2 := R67.out.cell (i := 2) rfl; have x3 := R67.out.cell (i := 3) rfl; have x4 := R67.out.cell (i := 4) rfl; have x5 := R67.out.cell (i := 5) rfl; have x6 := R67.out.cell (i := 6) rfl; have x7 := R67.out.cell (i := 7) rfl; have x8 := R67.out.cell (i := 8) rfl
   have y0 := R7.out.cell (i := 0) rfl; have y1 := R7.out.cell (i := 1) rfl; have y2 := R7.out.cell (i := 2) rfl; have y3 := R7.out.cell (i := 3) rfl; have y4 := R7.out.cell (i := 4) rfl; have y5 := R7.out.cell (i := 5) rfl; have y6 := R7.out.cell (i := 6) rfl; have y7 := R7.out.cell (i := 7) rfl; have y8 := R7.out.cell (i := 8) rfl
   go_wp2_with fail
   clear x0 x1 x2 x3 x4 x5 x6 x7 x8 y0 y1 y2 y3 y4 y5 y6 y7 y8
   go_loopw [8] (fun kv wk => ∃ k : Nat, kv = .int .i64 (k : Int) /\ k <= n /\ Hid (Later W7 wk)) (fun kv _ => (n - intOf kv).toNat)
   case atStart => exact ⟨0, rfl, Nat.zero_le _, hide (Later.refl _)⟩
   case round =>
    obtain ⟨k, rfl, hk, HK⟩ := hrel
    rename World => wk
    have x8 := (R67.out.later HK.out).cell (i := 8) rfl
    have y8 := (R7.out.later HK.out).cell (i := 8) rfl
    by_cases hkn : k < n
    ·obtain ⟨q, hq⟩ : ∃ q, o.qtys[k]? = some q := ⟨o.qtys[k]'(by have := HN.out; omega), List.getElem?_eq_getElem _⟩
     obtain ⟨b1, off1, rfl, z1⟩ := (HQ.out.later (L7.out.trans HK.out)).at1 hq
     obtain ⟨b2, off2, rfl, z2⟩ := (HQ'.out.later (L7.out.trans HK.out)).at1 hq
     have hk0 : (0 : Int) <= (k : Int) := by omega
     have hk1 : (k : Int) < n := by omega
     have hkb : k <= 1000000000 := by have := HLN.out; omega
     clear hq
     go_upto_region 13 with fail
     go_quiet (fail)
     all_goals
      go_wp2_with fail
      exact ⟨⟨k+1, by go_num, by omega, hide (HK.out.drewN _)⟩, by simp [intOf]; omega⟩
    ·have hk1 : ¬ (k : Int) < n := by omega
     go_wp2_with fail
     exact ⟨⟨1, rfl, by omega, hide (L7.out.trans HK.out)⟩, by simp [intOf]⟩
  ·obtain rfl : j = 1 := by omega
   go_wp2_with fail
   go_ret
   exact ⟨rfl, HL.out⟩
end Go.Proofs.YtncbebfhakcgdaaGreat
namespace Go.Proofs.YtncbebfhakcgdaaGreat
open Go.RowKit Go.Shelf Go.ChangeShapes Go.WideShapes Go.Deep
section
variable {H : Type} {enc : TypeId × Value -> H} {w : World} {base : Nat} {spare : Nat -> Bool} {held : Bool}
theorem cellsU8 : Tryz.prog.cellsOf 5 = 1 := by kernel_rfl
theorem arg_op {r : Reach} {b0 : Nat} {v : Value} {d : DataW H} {p : List MemPlace} (hv : Value.okWide Tryz.prog w r b0 31 v) (h : DataW.Trod enc Tryz.prog w base spare held 31 v d p) : ArgOp w v := by
 obtain ⟨cs, rfl, hsz⟩ := okWide_struct Tryz.underlying31 hv
 obtain ⟨fuel, hf⟩ := h
 obtain ⟨p, e, hp⟩ := op_open hf
 obtain ⟨⟨A, n, c⟩, o⟩ := p
 obtain ⟨l⟩ := cs
 simp [Value.cells, opCells] at e
 subst e
 exact ⟨A, n, c, o, rfl, hp.1, hp.2.1, hp.2.2.1⟩
theorem arg_bytes {r : Reach} {b0 : Nat} {v : Value} {d : DataW H} {p : List MemPlace} (hv : Value.okWide Tryz.prog w r b0 45 v) (h : DataW.Trod enc Tryz.prog w base spare held 45 v d p) : ArgBytes w v := by
 obtain ⟨A, n, c, rfl⟩ := okWide_slice Tryz.underlying45 hv
 obtain ⟨fuel, hf⟩ := h
 rcases open_ints Tryz.underlying45 Tryz.underlying5 cellsU8 hf with ⟨e, -⟩ | ⟨a, n', c', zs, e, -, hl, hm, hz, -, hcell, hwf⟩
 ·simp [Value.cells] at e
  obtain ⟨rfl, rfl, rfl⟩ := e
  exact ⟨none, 0, 0, [], rfl, Sq.nil _ _ _, fun x hx => by cases hx⟩
 ·simp [Value.cells] at e
  obtain ⟨rfl, rfl, rfl⟩ := e
  have hzl : n <= zs.length := by rw [hz]; split <;> omega
  refine ⟨some a, n, c, zs.take n, rfl, ?_, fun z hz => by have := hwf z (List.mem_of_mem_take hz); simp [Lit.wf, IntKind.min, IntKind.max, IntKind.bits, IntKind.signed] at this; omega⟩
  refine ⟨some a, c, by simp [hzl], by simp; omega, hm, fun i x hi => ?_⟩
  have hin : i < n := by have := (List.getElem?_eq_some_iff.1 hi).1; simp at this; omega
  obtain ⟨b, off, spot⟩ := a
  have hs : spot = none := by simpa [Addr.add] using World.cell?_spot (hcell 0 (by omega))
  subst hs
  have h0 := hcell i (by omega)
  refine ⟨b, off, rfl, fun j u hj => ?_⟩
  have hj0 : j = 0 := by have := (List.getElem?_eq_some_iff.1 hj).1; simp [uCells] at this; omega
  subst hj0
  simp [uCells] at hj
  subst hj
  rw [add_plain] at h0
  rw [Nat.mul_one, Nat.add_zero, h0]
  rw [List.getElem?_take_of_lt hin] at hi
  rw [List.getD_eq_getElem?_getD, hi]; rfl
end
end Go.Proofs.YtncbebfhakcgdaaGreat
