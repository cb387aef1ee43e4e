/- Problems: Standard (the program). -/
import Derived.RangeFuncBox
import Derived.RangeFuncNested
import Derived.RangeFuncBound
import Derived.RangeFuncCalls
import Derived.RangeFuncLeaves
import Derived.Shelf.Abstract
import Derived.Shelf.RegionOpen
import Derived.OwnWalkIn
import Derived.TacticsInMore
import Derived.LoopNIn
import Derived.LoopIn
import Derived.Test.YtfokplidiboabaaGreatQ21
set_option linter.unusedVariables false
set_option linter.unusedSimpArgs false
set_option maxRecDepth 100000
namespace Go.Proofs.YtfokplidiboabaaGreat
open Go.RowKit Go.Shelf

attribute [local go_sem] Oper.semAt_some

/-- a standard form in memory -/
structure StdV (w : World) (P : PLp) (vA vB vC vr : Value) : Prop where
  a : Tab EOwn w vA (stdA P)
  b : Rats EOwn w vB (stdB P)
  c : Rats EOwn w vC (stdC P)
  r : OwnR w 0 vr (restV P)
theorem StdV.later {w w' : World} {P : PLp} {vA vB vC vr : Value} (h : StdV w P vA vB vC vr) (hb : Later w w') : StdV w' P vA vB vC vr := ⟨h.a.later EOwn.later hb, h.b.later EOwn.later hb, h.c.later EOwn.later hb, OwnR.later h.r hb⟩
/-- what Standard hands back -/
def PStd (w : World) (P : PLp) (e : Ending) (w' : World) : Prop := ∃ vA vB vC vr, e = .returned (.tuple #[.agg #[vA, vB, vC], vr, .int .i64 (if lpB P then 0 else 1)]) ∧
  (lpB P = true → StdV w' P vA vB vC vr) ∧ (lpB P = false → vA = .slice none 0 0 ∧ vB = .slice none 0 0 ∧ vC = .slice none 0 0 ∧ OwnR w' 0 vr 0) ∧ Later w w'
theorem results_std {fn : Func} {t u v : Tmp} {tmps : Array Value} {W : World} {b b' : Nat} {x y z a1 a2 a3 a4 : Value} {n : Int} (h : fn.results = #[.cell t 31, .cell u 36, .tmp v]) (hp : tmps[t]?.getD undef = .pointer (some ⟨b, 0, none⟩)) (hq : tmps[u]?.getD undef = .pointer (some ⟨b', 0, none⟩)) (hu : tmps[v]?.getD undef = .int .i64 n) (hr : Row W b 31 [x, y, z]) (hr2 : Row W b' 36 [a1, a2, a3, a4]) :
    (results fn tmps).run Tryz.prog W = .ok (.tuple #[.agg #[x, y, z], .agg #[a1, a2, a3, a4], .int .i64 n]) W := by
  have c0 := hr.cell (i := 0) rfl; have c1 := hr.cell (i := 1) rfl; have c2 := hr.cell (i := 2) rfl
  obtain ⟨k0, k1, k2, k3, -⟩ := row_cells4 hr2
  simp [results, h, hp, hq, hu, go_sem, c0, c1, c2, k0, k1, k2, k3]
theorem KeepU.own_ {X Y : World} {row : Option Nat} (hg : X.grownBy Y row) (hr : ∀ r, row = some r → ∃ o : Obj, X.heap[r]? = some o ∧ o.isCells = false) : KeepU X Y := ⟨hg.size, fun b hb => hg.block b hb.lt fun e => by
  obtain ⟨o, ho, hc⟩ := hr b e.symm
  obtain ⟨cs, z, h⟩ := hb
  rw [h] at ho; injection ho with ho; subst ho; cases hc⟩

set_option maxHeartbeats 16000000 in
theorem pstd_in (w : World) (A1 A2 A3 A4 A5 : Option Addr) (n1 n2 n3 n4 n5 c1 c2 c3 c4 c5 : Nat) (k : Nat) (P : PLp) (h : LpIn w (.slice A1 n1 c1) (.slice A2 n2 c2) (.slice A3 n3 c3) (.slice A4 n4 c4) (.slice A5 n5 c5) k P) :
    CallsIn Fence.wide 10 Tryz.prog 17 #[.agg #[.slice A1 n1 c1, .slice A2 n2 c2, .slice A3 n3 c3, .slice A4 n4 c4, .slice A5 n5 c5]] w (PStd w P) := by
  have H := hide h
  have hc1 := h.cost; have hr1 := h.rows; have hl1 := h.lo; have hh1 := h.hi; have ho1 := h.opn
  have L1 := hide hc1.len_; have L2 := hide hr1.len_; have L3 := hide hl1.len_; have L4 := hide hh1.len_; have L5 := hide ho1.len_
  have hn1 : n1 ≤ 1000 := by have := h.cl; have := L1.out; omega
  have hn2 : n2 ≤ 1000 := by have := h.rl; have := L2.out; omega
  have hn3 : n3 ≤ 1000 := by have := h.ll; have := L3.out; omega
  have hn4 : n4 ≤ 1000 := by have := h.hl; have := L4.out; omega
  have hn5 : n5 ≤ 1000 := by have := h.ol; have := L5.out; omega
  have hkk := h.kk
  clear h hc1 hr1 hl1 hh1 ho1
  obtain ⟨u, hu⟩ : ∃ u, lpB P = u := ⟨_, rfl⟩
  have HU := hide hu
  clear hu
  obtain ⟨W0, hW0⟩ : ∃ W0, W0 = (((w.alloc (Obj.cells #[Value.slice A1 n1 c1, Value.slice A2 n2 c2, Value.slice A3 n3 c3, Value.slice A4 n4 c4, Value.slice A5 n5 c5] 26)).alloc (Obj.cells #[Value.slice none 0 0, Value.slice none 0 0, Value.slice none 0 0] 31)).alloc (Obj.cells #[Value.bool false, Value.slice none 0 0, Value.bool false, Value.slice none 0 0] 36)) := ⟨_, rfl⟩
  obtain ⟨hb0, r0, r1, r2, hsz0⟩ := boxes3 w [.slice A1 n1 c1, .slice A2 n2 c2, .slice A3 n3 c3, .slice A4 n4 c4, .slice A5 n5 c5] [.slice none 0 0, .slice none 0 0, .slice none 0 0] [.bool false, .slice none 0 0, .bool false, .slice none 0 0] 26 31 36 hW0
  have B0 := hide hb0; have HW0 := hide hW0; have HSZ0 := hide hsz0
  have R0 := hide r0; have R1 := hide r1; have R2 := hide r2
  clear hb0 hW0 hsz0 r0 r1 r2
  refine callsIn_of_wp_marks Tryz.func17 rfl trivial (wpIn_wide.2 ?_) rfl
  simp only [Tryz.ntmps17, List.size_toArray, List.length_cons, List.length_nil, Nat.reduceAdd, Nat.reduceSub, Array.replicate_succ, Array.replicate_zero, List.push_toArray, List.append_toArray, List.nil_append, List.cons_append]
  go_upto_region 1 with fail
  rw [← HW0.out]
  have r_d := R0.out.later (Later.refl W0)
  have d0 := r_d.cell (i := 0) rfl; have d1 := r_d.cell (i := 1) rfl; have d2 := r_d.cell (i := 2) rfl; have d3 := r_d.cell (i := 3) rfl; have d4 := r_d.cell (i := 4) rfl
  clear r_d
  go_wp2_with fail
  ((with_reducible refine (pmay_calls _ _ _ _ _ _ _ _ _ _ _ _ _ _ _ _ k P (H.out.later B0.out)).mono ?_); rintro e w1 ⟨rfl, b1⟩)
  rw [HU.out]
  have HL1 := hide b1
  clear b1 d0 d1 d2 d3 d4
  have r_d := R0.out.later HL1.out
  have d0 := r_d.cell (i := 0) rfl; have d1 := r_d.cell (i := 1) rfl; have d2 := r_d.cell (i := 2) rfl; have d3 := r_d.cell (i := 3) rfl; have d4 := r_d.cell (i := 4) rfl
  clear r_d
  cases u with
  | false =>
    go_wp2_with ((with_reducible refine (pzero_calls _).mono ?_); rintro e w2 ⟨v2, rfl, o2, b2⟩; obtain ⟨s2, P2, q2, e2, P2', q2', e2', rfl, o2⟩ := o2.open_; have O2 := hide o2; clear o2; have r1 := R1.out.later (HL1.out.trans b2); have r2 := R2.out.later (HL1.out.trans b2); have k0 := r1.cell (i := 0) rfl; have k1 := r1.cell (i := 1) rfl; have k2 := r1.cell (i := 2) rfl; have f0 := r1.frozen 0; have f1 := r1.frozen 1; have f2 := r1.frozen 2; obtain ⟨x1, x2, x3, x4, x5, x6, x7, x8⟩ := row_cells4 r2)
    have o2 : Only (w.heap.size + 1) w2 (((w2.setCell ⟨w.heap.size + 1, 0, none⟩ (.slice none 0 0)).setCell ⟨w.heap.size + 1, 1, none⟩ (.slice none 0 0)).setCell ⟨w.heap.size + 1, 2, none⟩ (.slice none 0 0)) := ((Only.one _ w2 _ _).set _ _).set _ _
    have r2b := r2.only o2 (by omega)
    have o3 : Only (w.heap.size + 1 + 1) (((w2.setCell ⟨w.heap.size + 1, 0, none⟩ (.slice none 0 0)).setCell ⟨w.heap.size + 1, 1, none⟩ (.slice none 0 0)).setCell ⟨w.heap.size + 1, 2, none⟩ (.slice none 0 0)) (((((((w2.setCell ⟨w.heap.size + 1, 0, none⟩ (.slice none 0 0)).setCell ⟨w.heap.size + 1, 1, none⟩ (.slice none 0 0)).setCell ⟨w.heap.size + 1, 2, none⟩ (.slice none 0 0)).setCell ⟨w.heap.size + 1 + 1, 0, none⟩ (.bool s2)).setCell ⟨w.heap.size + 1 + 1, 1, none⟩ (.slice P2 q2 e2)).setCell ⟨w.heap.size + 1 + 1, 2, none⟩ (.bool false)).setCell ⟨w.heap.size + 1 + 1, 3, none⟩ (.slice P2' q2' e2')) := Only.four _ _ _ _ _ _
    have F1 : Row (((((((w2.setCell ⟨w.heap.size + 1, 0, none⟩ (.slice none 0 0)).setCell ⟨w.heap.size + 1, 1, none⟩ (.slice none 0 0)).setCell ⟨w.heap.size + 1, 2, none⟩ (.slice none 0 0)).setCell ⟨w.heap.size + 1 + 1, 0, none⟩ (.bool s2)).setCell ⟨w.heap.size + 1 + 1, 1, none⟩ (.slice P2 q2 e2)).setCell ⟨w.heap.size + 1 + 1, 2, none⟩ (.bool false)).setCell ⟨w.heap.size + 1 + 1, 3, none⟩ (.slice P2' q2' e2')) (w.heap.size + 1) 31 [.slice none 0 0, .slice none 0 0, .slice none 0 0] := (((r1.set_ 0 (.slice none 0 0)).set_ 1 (.slice none 0 0)).set_ 2 (.slice none 0 0)).only o3 (by omega)
    have F2 : Row (((((((w2.setCell ⟨w.heap.size + 1, 0, none⟩ (.slice none 0 0)).setCell ⟨w.heap.size + 1, 1, none⟩ (.slice none 0 0)).setCell ⟨w.heap.size + 1, 2, none⟩ (.slice none 0 0)).setCell ⟨w.heap.size + 1 + 1, 0, none⟩ (.bool s2)).setCell ⟨w.heap.size + 1 + 1, 1, none⟩ (.slice P2 q2 e2)).setCell ⟨w.heap.size + 1 + 1, 2, none⟩ (.bool false)).setCell ⟨w.heap.size + 1 + 1, 3, none⟩ (.slice P2' q2' e2')) (w.heap.size + 1 + 1) 36 [.bool s2, .slice P2 q2 e2, .bool false, .slice P2' q2' e2'] := r2b.four _ _ _ _
    have F3 : OwnR (((((((w2.setCell ⟨w.heap.size + 1, 0, none⟩ (.slice none 0 0)).setCell ⟨w.heap.size + 1, 1, none⟩ (.slice none 0 0)).setCell ⟨w.heap.size + 1, 2, none⟩ (.slice none 0 0)).setCell ⟨w.heap.size + 1 + 1, 0, none⟩ (.bool s2)).setCell ⟨w.heap.size + 1 + 1, 1, none⟩ (.slice P2 q2 e2)).setCell ⟨w.heap.size + 1 + 1, 2, none⟩ (.bool false)).setCell ⟨w.heap.size + 1 + 1, 3, none⟩ (.slice P2' q2' e2')) 0 (.agg #[.bool s2, .slice P2 q2 e2, .bool false, .slice P2' q2' e2']) 0 := OwnR.keepU O2.out ((KeepU.only o2 r1 (by decide)).trans (KeepU.only o3 r2b (by decide)))
    have F4 := ((B0.out.trans (HL1.out.trans b2)).only o2 (by omega)).only o3 (by omega)
    refine ⟨_, results_std rfl rfl rfl rfl F1 F2, ?_⟩
    exact ⟨_, _, _, _, by rw [HU.out]; rfl, fun h => (by rw [HU.out] at h; cases h), fun _ => ⟨rfl, rfl, rfl, F3⟩, F4⟩
  | true =>
    have HP := hide (lpB_iff.1 HU.out)
    go_upto_region 4 with ((with_reducible refine (pplain_calls _ _ P.cost k (Rats.later ERaw.later H.out.cost (B0.out.trans HL1.out)) (by have := H.out.cl; omega) (by omega)).mono ?_); rintro e w3 ⟨v3, rfl, r3, b3⟩; obtain ⟨Ac, nc, cc, rfl⟩ := r3.form)
    clear d0 d1 d2 d3 d4
    obtain ⟨ws, hws⟩ : ∃ ws, ws = w3.alloc (Obj.cells #[Value.slice none 0 0, Value.slice none 0 0, Value.slice Ac nc cc] 31) := ⟨_, rfl⟩
    obtain ⟨gs, hgs_⟩ : ∃ gs, gs = w3.heap.size := ⟨_, rfl⟩
    have bws : Later w3 ws := by rw [hws]; exact (Later.refl _).alloc _
    have rgs : Row ws gs 31 [.slice none 0 0, .slice none 0 0, .slice Ac nc cc] := by rw [hws, hgs_]; exact Row.new _ _ _
    rw [← hws, ← hgs_]
    have HLs := hide (HL1.out.trans (b3.trans bws)); have RC := hide (RowU.later r3 bws); have RS := hide rgs
    have hgs : w1.heap.size ≤ gs := by rw [hgs_]; exact b3.size
    have hlc := r3.lt
    have HLC : Hid (∀ k, (Value.slice Ac nc cc).ownBlock = some k → w1.heap.size ≤ k ∧ k < gs) := hide (fun k hk => by rw [hgs_]; exact hlc k hk)
    have hgsz : gs < ws.heap.size := rgs.lt
    clear hws hgs_ bws rgs r3 b3 hlc
    have r_d := R0.out.later HLs.out
    have d0 := r_d.cell (i := 0) rfl; have d1 := r_d.cell (i := 1) rfl; have d2 := r_d.cell (i := 2) rfl; have d3 := r_d.cell (i := 3) rfl; have d4 := r_d.cell (i := 4) rfl
    clear r_d
    go_upto_region 5 with (((with_reducible refine (pbase_calls _ _ _ _ _ _ _ _ _ _ _ _ _ _ _ _ k P (H.out.later (B0.out.trans HLs.out)) HP.out).mono ?_); rintro e w4 ⟨Aq, nq, cq, vb4, hs4, rfl, t4, b4⟩; obtain ⟨Ab, nb, cb, rfl⟩ := (t4.x (i := 0) rfl rfl).form; have rs4 := RS.out.later b4; have k0 := rs4.cell (i := 0) rfl; have k1 := rs4.cell (i := 1) rfl; have k2 := rs4.cell (i := 2) rfl; have f0 := rs4.frozen 0; have f1 := rs4.frozen 1; have f2 := rs4.frozen 2))
    obtain ⟨w5, hw5⟩ : ∃ W, W = (w4.setCell ⟨gs, 0, none⟩ (.slice Aq nq cq)).setCell ⟨gs, 1, none⟩ (.slice Ab nb cb) := ⟨_, rfl⟩
    rw [← hw5]
    have oS : Only gs w4 w5 := by rw [hw5]; exact (Only.one gs w4 _ _).set _ _
    have rs5 : Row w5 gs 31 [.slice Aq nq cq, .slice Ab nb cb, .slice Ac nc cc] := by rw [hw5]; exact (rs4.set_ 0 (.slice Aq nq cq)).set_ 1 (.slice Ab nb cb)
    have hT5 := ((t4.older (lo := w1.heap.size) (RC.out.weaken (Nat.le_refl _) |>.later b4) (by omega) (fun k hk => by have := (HLC.out k hk).2; omega)).only oS rs4 (by decide) (by decide) (by decide))
    have HT5 := hide hT5
    have HL5 := hide ((HLs.out.trans b4).only oS (by have := HL1.out.size; have := HSZ0.out; omega))
    have hw1s := HL1.out.size
    have hsz0 := HSZ0.out
    have HX5 : Hid (Boxes w5 [(w.heap.size, 26, [.slice A1 n1 c1, .slice A2 n2 c2, .slice A3 n3 c3, .slice A4 n4 c4, .slice A5 n5 c5]), (w.heap.size + 1, 31, [.slice none 0 0, .slice none 0 0, .slice none 0 0]), (w.heap.size + 2, 36, [.bool false, .slice none 0 0, .bool false, .slice none 0 0]), (gs, 31, [.slice Aq nq cq, .slice Ab nb cb, .slice Ac nc cc])]) := hide (by
      have hl := HLs.out.trans b4
      intro r hr
      simp only [List.mem_cons, List.not_mem_nil, or_false] at hr
      rcases hr with rfl | rfl | rfl | rfl
      · exact (R0.out.later hl).only oS (by omega)
      · exact (R1.out.later hl).only oS (by omega)
      · exact (R2.out.later hl).only oS (by omega)
      · exact rs5)
    have hgs5 : gs < w5.heap.size := rs5.lt
    clear hT5 oS rs4 rs5 k0 k1 k2 f0 f1 f2 t4 b4 hw5 d0 d1 d2 d3 d4
    have r0 : Row w5 w.heap.size 26 [.slice A1 n1 c1, .slice A2 n2 c2, .slice A3 n3 c3, .slice A4 n4 c4, .slice A5 n5 c5] := HX5.out _ (List.mem_cons_self ..)
    have d0 := r0.cell (i := 0) rfl; have d1 := r0.cell (i := 1) rfl; have d2 := r0.cell (i := 2) rfl; have d3 := r0.cell (i := 3) rfl; have d4 := r0.cell (i := 4) rfl
    go_wp2_with (refine (callsIn_wide.1 (extra_in Fence.wide 0 trivial rfl _ _ _ _ _ _ _ _ _ _ _ _ _ _ _ _)).mono ?_; rintro e w6 ⟨rfl, rfl⟩)
    obtain ⟨w6, hw6⟩ : ∃ W, W = w5.alloc (Obj.cells #[Value.slice A1 n1 c1, Value.slice A2 n2 c2, Value.slice A3 n3 c3, Value.slice A4 n4 c4, Value.slice A5 n5 c5] 26) := ⟨_, rfl⟩
    obtain ⟨gp, hgp⟩ : ∃ g, g = w5.heap.size := ⟨_, rfl⟩
    rw [← hw6, ← hgp]
    have l6 : Later w5 w6 := by rw [hw6]; exact (Later.refl _).alloc _
    have rb : Row w6 gp 26 [.slice A1 n1 c1, .slice A2 n2 c2, .slice A3 n3 c3, .slice A4 n4 c4, .slice A5 n5 c5] := by rw [hw6, hgp]; exact Row.new _ _ _
    have hLW : Later w w6 := B0.out.trans (HL5.out.trans l6)
    have hws : w.heap.size ≤ w6.heap.size := hLW.size
    have HT6 := hide (HT5.out.later l6); have HX6 := hide (HX5.out.later l6)
    have hgs6 : gs < w6.heap.size := by have := l6.size; omega
    have hlow : w1.heap.size ≤ w6.heap.size := by omega
    clear d0 d1 d2 d3 d4 hw6 l6 HT5 HX5 r0
    have hOwn : Own (fun (pre : List Ex) (W : World) => ∃ AC nC cC hs, TabX W w1.heap.size (.slice Aq nq cq) hs (wideW (pre.map exKey) (baseA P)) [.slice AC nC cC, .slice Ab nb cb] [P.cost ++ List.replicate pre.length 0, baseB P] ∧ Boxes W [(w.heap.size, 26, [.slice A1 n1 c1, .slice A2 n2 c2, .slice A3 n3 c3, .slice A4 n4 c4, .slice A5 n5 c5]), (w.heap.size + 1, 31, [.slice none 0 0, .slice none 0 0, .slice none 0 0]), (w.heap.size + 2, 36, [.bool false, .slice none 0 0, .bool false, .slice none 0 0]), (gs, 31, [.slice Aq nq cq, .slice Ab nb cb, .slice AC nC cC])]) := by
      rintro s X Y row ⟨AC, nC, cC, hs, h1, h2⟩ hg hr
      exact ⟨AC, nC, cC, hs, h1.own_ hg hr, h2.own_ hg hr⟩
    refine (wpIn_wide (n := 10)).1 ?_
    refine range_each (α := Ex) rfl (by omega) (gf := 131) (lb := #[.pointer (some ⟨gp, 0, none⟩)]) rfl trivial (enters_of Tryz.func131 (by kernel_rfl) rfl) exEnc exG (KpF w.heap.size) (fun xs => xs.map exKey = extraL P) 48
      (fun l J W hb hJ hY h0 => extra1_in (10 - 1) (by omega) l gp _ _ _ _ _ _ _ _ _ _ _ _ _ _ _ k P HP.out w W H.out (Below.trans hLW (hb.mono hws)) (rb.later hb) J (fun pre X Y hj hs hl => hJ pre X Y none hj (Later.grownBy hl none) (fun r e => by cases e)) hY h0)
      (fun h k => h.trans k) (KpF.putObj hws) (fun _ => rfl) (fun pre W => (∃ AC nC cC hs, TabX W w1.heap.size (.slice Aq nq cq) hs (wideW (pre.map exKey) (baseA P)) [.slice AC nC cC, .slice Ab nb cb] [P.cost ++ List.replicate pre.length 0, baseB P] ∧ Boxes W [(w.heap.size, 26, [.slice A1 n1 c1, .slice A2 n2 c2, .slice A3 n3 c3, .slice A4 n4 c4, .slice A5 n5 c5]), (w.heap.size + 1, 31, [.slice none 0 0, .slice none 0 0, .slice none 0 0]), (w.heap.size + 2, 36, [.bool false, .slice none 0 0, .bool false, .slice none 0 0]), (gs, 31, [.slice Aq nq cq, .slice Ab nb cb, .slice AC nC cC])]) ∧ Below w.heap.size w W)
      (OwnFrom.and (hOwn.from _) (ownFrom_below (Nat.le_refl _) hws)) ⟨⟨_, _, _, hs4, by rw [List.map_nil, wideW_nil, List.length_nil, List.replicate_zero, List.append_nil]; exact HT6.out, HX6.out⟩, hLW⟩ ?round ?done
    case round =>
      clear HT6 HX6
      rintro l pre x W hl ⟨⟨AC, nC, cC, hs, hT, hX⟩, hbw⟩ hx hlen
      simp only [exEnc, RCells.val]
      have HT := hide hT; have HX := hide hX; have HBW := hide hbw; have HEX := hide hx
      clear hT hX hbw hx
      gi_wp2
      obtain ⟨W1, hW1⟩ : ∃ V, V = W.alloc (Obj.cells #[Value.bool x.e.a, Value.slice x.e.A x.e.n x.e.c, Value.bool x.e.a', Value.slice x.e.A' x.e.n' x.e.c'] 36) := ⟨_, rfl⟩
      obtain ⟨gx, hgx⟩ : ∃ g, g = W.heap.size := ⟨_, rfl⟩
      rw [← hW1, ← hgx]
      have l1 : Later W W1 := by rw [hW1]; exact (Later.refl _).alloc _
      have rx : Row W1 gx 36 [.bool x.e.a, .slice x.e.A x.e.n x.e.c, .bool x.e.a', .slice x.e.A' x.e.n' x.e.c'] := by rw [hW1, hgx]; exact Row.new _ _ _
      have hws1 := HBW.out.size
      have hgsW : gs < W.heap.size := (HX.out _ (List.mem_cons_of_mem _ (List.mem_cons_of_mem _ (List.mem_cons_of_mem _ (List.mem_cons_self ..))))).lt
      have hl1 := l1.size
      refine ⟨(KK.later (Nat.zero_le _) l1).oth.from _, KpF.later hws1 l1, fun W2 hW2 => ?_⟩
      obtain ⟨hlB, ob, ob', hb1, hb2, hb3, hW2⟩ := hW2
      have hg : W1.grownBy W2 (some l) := by rw [hW2]; exact grownBy_putObj' W1 l ob'
      have hr : ∀ r, some l = some r → ∃ o : Obj, W1.heap[r]? = some o ∧ o.isCells = false := fun r e => by cases e; exact ⟨ob, hb1, hb2⟩
      have hT2 := (HT.out.later l1).own_ hg hr
      have hX2 := (HX.out.later l1).own_ hg hr
      have rx2 := row_own_ rx hg hr
      have hq2 : OwnR W2 0 x.e.val x.q := (OwnR.later HEX.out.1 l1).keepU (KeepU.own_ hg hr)
      have hB2 : Below w.heap.size w W2 := (HBW.out.trans (l1.mono hws1)).trans (by rw [hW2]; exact belowK_b (w := w6) hws W1 l ob ob' hlB hb1 hb2 hb3)
      have hgs2 : W1.heap.size ≤ W2.heap.size := hg.size
      have hgxT : ∀ u ∈ ([.slice AC nC cC, .slice Ab nb cb] ++ hs : List Value), u.ownBlock ≠ some gx := by
        intro u hu e
        obtain ⟨i, hi⟩ := List.mem_iff_getElem?.1 hu
        have hil := (List.getElem?_eq_some_iff.1 hi).1
        have h1 := (OutRats.lt (HT.out.tab.row i u _ hi (List.getElem?_eq_getElem (by rw [← HT.out.tab.len]; exact hil))) gx e).2
        omega
      have hXX : Boxes W2 [(w.heap.size, 26, [.slice A1 n1 c1, .slice A2 n2 c2, .slice A3 n3 c3, .slice A4 n4 c4, .slice A5 n5 c5]), (w.heap.size + 1, 31, [.slice none 0 0, .slice none 0 0, .slice none 0 0]), (w.heap.size + 2, 36, [.bool false, .slice none 0 0, .bool false, .slice none 0 0]), (gs, 31, [.slice Aq nq cq, .slice Ab nb cb, .slice AC nC cC]), (gx, 36, [.bool x.e.a, .slice x.e.A x.e.n x.e.c, .bool x.e.a', .slice x.e.A' x.e.n' x.e.c'])] := by
        intro r hr
        simp only [List.mem_cons, List.not_mem_nil, or_false] at hr
        rcases hr with rfl | rfl | rfl | rfl | rfl
        · exact hX2 _ (List.mem_cons_self ..)
        · exact hX2 _ (List.mem_cons_of_mem _ (List.mem_cons_self ..))
        · exact hX2 _ (List.mem_cons_of_mem _ (List.mem_cons_of_mem _ (List.mem_cons_self ..)))
        · exact hX2 _ (List.mem_cons_of_mem _ (List.mem_cons_of_mem _ (List.mem_cons_of_mem _ (List.mem_cons_self ..))))
        · exact rx2
      have h48 := HEX.out.2.2
      clear hW2 hb1 hb2 hb3 hg hr HT HX HEX HBW hX2 rx2 rx hW1 ob ob'
      refine wpIn_mono (pstd_body l (10 - 1 - 1) W2 k P A1 A2 A3 A4 A5 n1 n2 n3 n4 n5 c1 c2 c3 c4 c5 Aq Ab AC nq nb nC cq cb cC hs (pre.map exKey) (x.row, x.q) x.e w.heap.size (w.heap.size + 1) (w.heap.size + 2) gs gx w1.heap.size w.heap.size (by omega) (by rw [List.length_map]; exact hT2) hXX hq2 h48 (by rw [List.length_map]; exact hlen) HP.out hgxT (by omega) (by omega) (by omega) (by omega) (by omega) _ _ _ _ _ _ _ _ _ _ _ _ _ _ _ _ _ _ _ _ _ _ _ _ _ _ _ _ _ _ _ _ _ _ _ _ _ _ _ _ _ _ _ _ _ _ _ _ _ _ _ _ _ _ _ _ _ _ _ _ _ _ _ _ _ _ _ _ _ _ _ _ _ _ _ _ _ _ _ _ _ _ _ _ _ _ _ _ _ _ _ _ _ _ _ _ _ _ _ _ _ _ _ _ _ _ _ _ _ _ _ _ _ _ _ _ _ _  (goesOn w6.heap.size (KpF w.heap.size) (fun (pre : List Ex) (W : World) => (∃ AC nC cC hs, TabX W w1.heap.size (.slice Aq nq cq) hs (wideW (pre.map exKey) (baseA P)) [.slice AC nC cC, .slice Ab nb cb] [P.cost ++ List.replicate pre.length 0, baseB P] ∧ Boxes W [(w.heap.size, 26, [.slice A1 n1 c1, .slice A2 n2 c2, .slice A3 n3 c3, .slice A4 n4 c4, .slice A5 n5 c5]), (w.heap.size + 1, 31, [.slice none 0 0, .slice none 0 0, .slice none 0 0]), (w.heap.size + 2, 36, [.bool false, .slice none 0 0, .bool false, .slice none 0 0]), (gs, 31, [.slice Aq nq cq, .slice Ab nb cb, .slice AC nC cC])]) ∧ Below w.heap.size w W) (pre ++ [x]) W2 .normal) ?_) ?_
      · intro a' w' AC' nC' cC' hs' hT' hX' hKK
        refine ⟨hKK.oth.from _, hKK.kp, ⟨AC', nC', cC', hs', ?_, hX'⟩, hB2.trans hKK.kp.1⟩
        rw [List.map_append, List.length_append, List.length_singleton]
        rw [List.length_map] at hT'
        exact hT'
      · intro e a' w' h
        cases e <;> first | exact h | exact h.elim
    case done =>
      rintro D ys W hD hS ⟨⟨AC, nC, cC, hs, hT, hX⟩, hB⟩ hK
      have hyl : ys.length = (extraL P).length := by rw [← hS, List.length_map]
      rw [hS, ← wideA_W, hyl] at hT
      have hT : TabX W w1.heap.size (.slice Aq nq cq) hs (wideA P) [.slice AC nC cC, .slice Ab nb cb] [stdC P, baseB P] := hT
      have hgsW : gs < W.heap.size := (hX _ (List.mem_cons_of_mem _ (List.mem_cons_of_mem _ (List.mem_cons_of_mem _ (List.mem_cons_self ..))))).lt
      clear HT6 HX6 hS hyl
      simp only [Exit.inBlock, Exit.then]
      apply_assumption
      refine wp_mono (pstd_tail w W A1 A2 A3 A4 A5 n1 n2 n3 n4 n5 c1 c2 c3 c4 c5 k P H.out HP.out w.heap.size (w.heap.size + 1) (w.heap.size + 2) gs w1.heap.size Aq Ab AC nq nb nC cq cb cC hs hB hX hT (by omega) (by omega) (by omega) (by omega) (by omega) (by omega) (by omega) _ _ _ _ _ _ _ _ _ _ _ _ _ _ _ _ _ _ _ _ _ _ _ _ _ _ _ _ _ _ _ _ _ _ _ _ _ _ _ _ _ _ _ _ _ _ _ _ _ _ _ _ _ _ _ _ _ _ _ _ _ _ _ _ _ _ _ _ _ _ _ _ _ _ _ _ _ _ _ _ _ _ _ _ _ _ _ _ _ _ _ _ _ _ _ _ _ _ _ _ _ _ _ _ _ _ _ _ _ _ _ _ _ _ _ _ _ _ _ _ _  (bodyPostM Fence.wide 10 Tryz.prog Tryz.f17 (PStd w P) .ret) ?_) ?_
      · intro a' w' hs' s1 s2 P1 P2 q1 q2 e1 e2 hds h2 h3 h4 r2 r3 hT' hO hL hKO
        show LeavesInM Fence.wide 10 Tryz.prog Tryz.f17 a'.tmps (PStd w P) a'.defers .returning w'
        rw [hds]
        have hK' := hKO.same D _ hK rfl
        have hg : w'.grownBy (w'.putObj D (.deferred none)) (some D) := grownBy_putObj' w' D _
        have hr : ∀ r, some D = some r → ∃ o : Obj, w'.heap[r]? = some o ∧ o.isCells = false := fun r e => by cases e; exact ⟨_, hK', rfl⟩
        refine ⟨by simp, .inl ⟨_, _, rfl, run_takeDeferred hK', ?_⟩⟩
        refine ⟨_, results_std rfl h2 h3 h4 (row_own_ r2 hg hr) (row_own_ r3 hg hr), ?_⟩
        have hT2 := hT'.own_ hg hr
        refine ⟨_, _, _, _, by rw [HU.out]; rfl, fun _ => ⟨hT2.reads, (hT2.x (i := 1) rfl rfl).rats, (hT2.x (i := 0) rfl rfl).rats, OwnR.keepU hO (KeepU.own_ hg hr)⟩, fun h => (by rw [HU.out] at h; cases h), ?_⟩
        exact Below.trans (show Below w.heap.size w w' from hL) (belowK_b (w := w) (Nat.le_refl _) w' D _ _ (by omega) hK' rfl rfl)
      · intro e a' w' h
        cases e <;> first | exact h | exact h.elim

theorem pstd_calls (w : World) (A1 A2 A3 A4 A5 : Option Addr) (n1 n2 n3 n4 n5 c1 c2 c3 c4 c5 : Nat) (k : Nat) (P : PLp) (h : LpIn w (.slice A1 n1 c1) (.slice A2 n2 c2) (.slice A3 n3 c3) (.slice A4 n4 c4) (.slice A5 n5 c5) k P) :
    Calls Tryz.prog 17 #[.agg #[.slice A1 n1 c1, .slice A2 n2 c2, .slice A3 n3 c3, .slice A4 n4 c4, .slice A5 n5 c5]] w (PStd w P) :=
  callsIn_wide.1 (pstd_in w _ _ _ _ _ _ _ _ _ _ _ _ _ _ _ k P h)
end Go.Proofs.YtfokplidiboabaaGreat
