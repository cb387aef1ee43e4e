/- Problems: Standard (the program): rows turned, what is handed back. -/
import Derived.Test.YtfokplidiboabaaGreatS21
import Derived.Test.YtfokplidiboabaaGreatS8
set_option linter.unusedVariables false
set_option linter.unusedSimpArgs false
set_option maxRecDepth 100000
namespace Go.Proofs.YtfokplidiboabaaGreat
open Go.RowKit Go.Shelf
attribute [local go_sem ↓] Go.wp_at_zero Go.wp_at_succ
def sFst : Code -> Code
 | .seq a _ => a
 | c => c
def sSnd : Code -> Code
 | .seq _ b => b
 | c => c
def retOnly (R : Act -> World -> Prop) : Exit -> Act -> World -> Prop
 | .ret, a, w => R a w
 | _, _, _ => False
set_option maxHeartbeats 16000000 in
theorem pstd_tail (w0 wr0 : World) (A1 A2 A3 A4 A5 : Option Addr) (n1 n2 n3 n4 n5 c1 c2 c3 c4 c5 : Nat) (k : Nat) (P : PLp) (h : LpIn w0 (.slice A1 n1 c1) (.slice A2 n2 c2) (.slice A3 n3 c3) (.slice A4 n4 c4) (.slice A5 n5 c5) k P) (hP : LpP P)
 (g0 g2 g3 gs lo : Nat) (A AB AC : Option Addr) (n nB nC c cB cC : Nat) (hs : List Value) (hL : Later w0 wr0) (hB : Boxes wr0 [(g0, 26, [.slice A1 n1 c1, .slice A2 n2 c2, .slice A3 n3 c3, .slice A4 n4 c4, .slice A5 n5 c5]), (g2, 31, [.slice none 0 0, .slice none 0 0, .slice none 0 0]), (g3, 36, [.bool false, .slice none 0 0, .bool false, .slice none 0 0]), (gs, 31, [.slice A n c, .slice AB nB cB, .slice AC nC cC])]) (hT : TabX wr0 lo (.slice A n c) hs (wideA P) [.slice AC nC cC, .slice AB nB cB] [stdC P, baseB P])
 (hg2 : w0.heap.size <= g2) (hg3 : w0.heap.size <= g3) (hlo2 : g2 < lo) (hlo3 : g3 < lo) (hgs : g2 ≠ gs) (hg23 : g2 ≠ g3) (hlow : lo <= wr0.heap.size) (ds : List Deferred) (v0 v6 v7 v8 v9 v10 v11 v12 v13 v14 v15 v16 v17 v18 v19 v20 v21 v22 v23 v24 v25 v26 v27 v28 v29 v30 v31 v32 v33 v34 v35 v36 v37 v38 v39 v40 v41 v42 v43 v44 v45 v46 v47 v48 v49 v50 v51 v52 v53 v54 v55 v56 v57 v58 v59 v60 v61 v62 v63 v64 v65 v66 v67 v68 v69 v70 v71 v72 v73 v74 v75 v76 v77 v78 v79 v80 v81 v82 v83 v84 v85 v86 v87 v88 v89 v90 v91 v92 v93 v94 v95 v96 v97 v98 v99 v100 v101 v102 v103 v104 v105 v106 v107 v108 v109 v110 v111 v112 v113 v114 v115 v116 v117 v118 v119 v120 v121 v122 v123 v124 : Value) (R : Act -> World -> Prop)
 (hQ : ∀ (a' : Act) (w' : World) (hs' : List Value) (s1 s2 : Bool) (P1 P2 : Option Addr) (q1 q2 e1 e2 : Nat), a'.defers = ds -> a'.tmps[2]?.getD undef = .pointer (some ⟨g2, 0, none⟩) -> a'.tmps[3]?.getD undef = .pointer (some ⟨g3, 0, none⟩) -> a'.tmps[4]?.getD undef = .int .i64 0 ->
  Row w' g2 31 [.slice A n c, .slice AB nB cB, .slice AC nC cC] -> Row w' g3 36 [.bool s1, .slice P1 q1 e1, .bool s2, .slice P2 q2 e2] -> TabX w' lo (.slice A n c) hs' (stdA P) [.slice AC nC cC, .slice AB nB cB] [stdC P, stdB P] -> OwnR w' 0 (.agg #[.bool s1, .slice P1 q1 e1, .bool s2, .slice P2 q2 e2]) (restV P) -> Later w0 w' -> KeepsOthers wr0 w' -> R a' w') :
 Code.wp Tryz.prog (sSnd (sSnd (sSnd (sSnd (sSnd (Tryz.f17.body.getD .skip)))))) (retOnly R) { tmps := #[v0, .pointer (some ⟨g0, 0, none⟩), .pointer (some ⟨g2, 0, none⟩), .pointer (some ⟨g3, 0, none⟩), .int .i64 0, .pointer (some ⟨gs, 0, none⟩), v6, v7, v8, v9, v10, v11, v12, v13, v14, v15, v16, v17, v18, v19, v20, v21, v22, v23, v24, v25, v26, v27, v28, v29, v30, v31, v32, v33, v34, v35, v36, v37, v38, v39, v40, v41, v42, v43, v44, v45, v46, v47, v48, v49, v50, v51, v52, v53, v54, v55, v56, v57, v58, v59, v60, v61, v62, v63, v64, v65, v66, v67, v68, v69, v70, v71, v72, v73, v74, v75, v76, v77, v78, v79, v80, v81, v82, v83, v84, v85, v86, v87, v88, v89, v90, v91, v92, v93, v94, v95, v96, v97, v98, v99, v100, v101, v102, v103, v104, v105, v106, v107, v108, v109, v110, v111, v112, v113, v114, v115, v116, v117, v118, v119, v120, v121, v122, v123, v124], defers := ds } wr0 := by
 obtain ⟨CT, hCT⟩ : ∃ C, C = (sSnd (sSnd (sSnd (sSnd (sSnd (Tryz.f17.body.getD .skip)))))) := ⟨_, rfl⟩
 rw [<- hCT]
 conv at hCT => rhs; whnf
 subst hCT
 have H := hide h
 have hc1 := h.cost; have hr1 := h.rows; have hl1 := h.lo; have hh1 := h.hi; have ho1 := h.opn
 have L1 := hide hc1.len_; have L2 := hide hr1.len_; have L3 := hide hl1.len_; have L4 := hide hh1.len_; have L5 := hide ho1.len_
 have hn1 : n1 <= 1000 := by have := h.cl; have := L1.out; omega
 have hn2 : n2 <= 1000 := by have := h.rl; have := L2.out; omega
 have hn3 : n3 <= 1000 := by have := h.ll; have := L3.out; omega
 have hn4 : n4 <= 1000 := by have := h.hl; have := L4.out; omega
 have hn5 : n5 <= 1000 := by have := h.ol; have := L5.out; omega
 have hkk := h.kk
 clear h hc1 hr1 hl1 hh1 ho1
 have HP := hide hP; have HL0 := hide hL; have HB := hide hB; have HT0 := hide hT; have HQ := hide hQ
 have hnl : n = hs.length := by
  obtain ⟨-, k2⟩ := hT.own
  rcases k2 with ⟨e, e2⟩ | ⟨g, c', cur, e, -⟩
  ·injection e with _ e _; omega
  ·injection e
 have HNL : Hid (n = (wideA P).length) := hide (by rw [hnl, hT.ht])
 have hn48 : n <= 48 := by
  have h1 := HNL.out; rw [wideA_len] at h1
  have := hP.rl; have := endsL_len_le hP; omega
 have HLA : Hid ((stdA P).length = (wideA P).length) := hide (by rw [stdA_len, wideA_len])
 have HLB : Hid ((stdB P).length = (baseB P).length) := hide (by rw [stdB_len, baseB_len])
 have HLAB : Hid ((baseB P).length = (wideA P).length) := hide (by rw [wideA_len, baseB_len])
 have SA := hide (wideA_sized H.out hP); have SB := hide (baseB_sized H.out hP); have WR := hide (wideA_rows hP)
 have HEX := hide (extraL_len_le hP); have HN24 := hP.n24
 clear hP hL hT hQ hnl
 go_upto_region 18 with (first
  | ((with_reducible refine (pzero_calls _).mono ?_); rintro e w1 ⟨v1, rfl, o1, b1⟩; obtain ⟨s1, P1, q1, e1, P1', q1', e1', rfl, o1⟩ := o1.open_; have O1 := hide o1; clear o1)
  | ((with_reducible refine (pone_calls _).mono ?_); rintro e w2 ⟨v2, rfl, o2, b2⟩; obtain ⟨s2, P2, q2, e2, P2', q2', e2', rfl, o2⟩ := o2.open_; have O2 := hide o2; clear o2)
  | ((with_reducible refine (rsub_calls _ _ _ 0 1 1 1 (OwnR.raw (OwnR.later O1.out b2) sized_0) (OwnR.raw O2.out sized_1) (by omega)).mono ?_); rintro e w3 ⟨v3, rfl, o3, b3⟩; rw [show (0 : Rat) - 1 = -1 by decide +kernel] at o3; obtain ⟨s3, P3, q3, e3, P3', q3', e3', rfl, o3⟩ := o3.open_; have O3 := hide o3; clear o3))
 obtain ⟨wm, hwm⟩ : ∃ wm, wm = w3.alloc (Obj.cells #[Value.bool s3, Value.slice P3 q3 e3, Value.bool false, Value.slice P3' q3' e3'] 36) := ⟨_, rfl⟩
 obtain ⟨gm, hgm⟩ : ∃ gm, gm = w3.heap.size := ⟨_, rfl⟩
 have bwm : Later w3 wm := by rw [hwm]; exact (Later.refl _).alloc _
 have rgm : Row wm gm 36 [.bool s3, .slice P3 q3 e3, .bool false, .slice P3' q3' e3'] := by rw [hwm, hgm]; exact Row.new _ _ _
 rw [<- hwm, <- hgm]
 have HO3m := hide (OwnR.later O3.out bwm)
 have HLm := hide (b1.trans (b2.trans (b3.trans bwm)))
 have HX0 : Hid (Boxes wm [(g0, 26, [.slice A1 n1 c1, .slice A2 n2 c2, .slice A3 n3 c3, .slice A4 n4 c4, .slice A5 n5 c5]), (g2, 31, [.slice none 0 0, .slice none 0 0, .slice none 0 0]), (g3, 36, [.bool false, .slice none 0 0, .bool false, .slice none 0 0]), (gs, 31, [.slice A n c, .slice AB nB cB, .slice AC nC cC]), (gm, 36, [.bool s3, .slice P3 q3 e3, .bool false, .slice P3' q3' e3'])]) := hide (by
  intro r hr
  have h1 := HB.out.later HLm.out
  simp only [List.mem_cons, List.not_mem_nil, or_false] at hr
  rcases hr with rfl | rfl | rfl | rfl | rfl
  ·exact h1 _ (List.mem_cons_self ..)
  ·exact h1 _ (List.mem_cons_of_mem _ (List.mem_cons_self ..))
  ·exact h1 _ (List.mem_cons_of_mem _ (List.mem_cons_of_mem _ (List.mem_cons_self ..)))
  ·exact h1 _ (List.mem_cons_of_mem _ (List.mem_cons_of_mem _ (List.mem_cons_of_mem _ (List.mem_cons_self ..))))
  ·exact rgm)
 have HGMB : Hid (∀ g, AB = some ⟨g, 0, none⟩ -> g < gm) := hide (by
  intro g hg
  have h1 := (HT0.out.x (i := 1) rfl rfl).lt g (by rw [hg]; rfl)
  have h2 := (b1.trans (b2.trans b3)).size
  rw [hgm]; omega)
 have HKm := hide (KK.later (Nat.zero_le _) HLm.out); have HL0m := hide (HL0.out.trans HLm.out); have HT0m := hide (HT0.out.later HLm.out)
 clear hwm hgm bwm rgm o1 o2 o3 b1 b2 b3 O1 O2 O3 HT0 HL0 HB
 have e5 := (HX0.out _ (List.mem_cons_of_mem _ (List.mem_cons_of_mem _ (List.mem_cons_of_mem _ (List.mem_cons_self ..))))).cell (i := 0) rfl
 go_wp2_with fail
 clear e5
 go_loopw [70] (fun i wr => ∃ j : Nat, j <= n /\ i = .int .i64 (j : Int) /\ ∃ hs, TabX wr lo (.slice A n c) hs ((stdA P).take j ++ (wideA P).drop j) [.slice AC nC cC, .slice AB nB cB] [stdC P, (stdB P).take j ++ (baseB P).drop j] /\ Boxes wr [(g0, 26, [.slice A1 n1 c1, .slice A2 n2 c2, .slice A3 n3 c3, .slice A4 n4 c4, .slice A5 n5 c5]), (g2, 31, [.slice none 0 0, .slice none 0 0, .slice none 0 0]), (g3, 36, [.bool false, .slice none 0 0, .bool false, .slice none 0 0]), (gs, 31, [.slice A n c, .slice AB nB cB, .slice AC nC cC]), (gm, 36, [.bool s3, .slice P3 q3 e3, .bool false, .slice P3' q3' e3'])] /\ Later w0 wr /\ KeepU wm wr /\ KK 0 wm wr) (fun i _ => (n - intOf i).toNat)
 case atStart => exact ⟨0, by omega, rfl, hs, by simpa using HT0m.out, HX0.out, HL0m.out, KeepU.refl _, KK.refl _ _⟩
 case round =>
  clear HT0m HX0 HL0m hs
  obtain ⟨j, hj, rfl, hs, hT, hX, hL, hku, hkk⟩ := hrel
  have HTX := hide hT; have HX := hide hX; have HL := hide hL; have HKU := hide hku; have HKK := hide hkk
  clear hX hL hku hkk
  by_cases hjn : j < n
  ·obtain ⟨row, hrow⟩ : ∃ x, (wideA P)[j]? = some x := ⟨(wideA P)[j]'(by have := HNL.out; omega), List.getElem?_eq_getElem _⟩
   obtain ⟨b, hb⟩ : ∃ x, (baseB P)[j]? = some x := ⟨(baseB P)[j]'(by have := HNL.out; have := HLAB.out; omega), List.getElem?_eq_getElem _⟩
   have HWA := hide hrow; have HBB := hide hb
   have hjw : j < (wideA P).length := by have := HNL.out; omega
   have HSA : Hid ((stdA P)[j]? = some (flipR row b)) := hide (by
    have h1 := stdA_get hjw
    rw [List.getD_eq_getElem?_getD, hrow, List.getD_eq_getElem?_getD, hb] at h1; exact h1)
   have HSB : Hid ((stdB P)[j]? = some (b * sgq b)) := hide (by
    have h1 := stdB_get hjw
    rw [List.getD_eq_getElem?_getD, hb] at h1; exact h1)
   have hma : ((stdA P).take j ++ (wideA P).drop j)[j]? = some row := by rw [mix_get HLA.out hjw]; exact hrow
   have hmb : ((stdB P).take j ++ (baseB P).drop j)[j]? = some b := by rw [mix_get HLB.out (by have := HLAB.out; omega)]; exact hb
   have HJB : Hid (j < ((stdB P).take j ++ (baseB P).drop j).length) := hide ((List.getElem?_eq_some_iff.1 hmb).1)
   have hhl : j < hs.length := by rw [hT.ht]; exact (List.getElem?_eq_some_iff.1 hma).1
   obtain ⟨Aj, nj, cj, hsj⟩ := hT.sl hs[j] (List.getElem_mem hhl)
   have hhj : hs[j]? = some (.slice Aj nj cj) := by rw [List.getElem?_eq_getElem hhl, hsj]
   have HHJ := hide hhj
   have hru := hT.h_ hhj hma
   have HNJ : Hid (nj = row.length) := hide (by
    obtain ⟨_, _, _, e, hn, -⟩ := hru.rats.form
    injection e with _ e _; omega)
   have hnj : nj <= 100 := by
    have h1 := WR.out row (List.mem_of_getElem? hrow); have := HNJ.out; have := HEX.out; omega
   have HRR : Hid (Rats (ERaw (k+1)) wr (.slice Aj nj cj) row) := hide (hru.rats.map fun v q hq ho => OwnR.raw (show OwnR wr 0 v q from ho) (SA.out row (List.mem_of_getElem? hrow) q hq))
   have HBS : Hid (Sized b 200000) := hide (SB.out b (List.mem_of_getElem? hb))
   obtain ⟨gA, capA, sp, hvA, hgA, hrA, -, -⟩ := hT.block (by omega)
   injection hvA with hvA hn2 hc2
   subst hvA hc2
   have RA := hide hrA
   have HAJ : Hid ((hs ++ sp)[j]? = some (.slice Aj nj cj)) := hide (by rw [List.getElem?_append_left hhl]; exact hhj)
   have hrb := hT.x (i := 1) rfl rfl
   obtain ⟨gB, capB, csB, hvB, hgB, -, -, hrB⟩ := OutRats.row hrb (by have := HJB.out; omega)
   injection hvB with hvB hnB hcB
   subst hvB
   have RB := hide hrB
   obtain ⟨bb, of', t0, T1, m1, d1, t2, T2, m2, d2, hA, x1, x2, x3, x4, ho⟩ := hrb.rats.at_ (i := j) (q := b) hmb
   injection hA with hA; injection hA with hA1 hA2
   subst hA1 hA2
   rw [Nat.zero_add] at x1 x2 x3 x4
   have HBC : Hid (wr.cell? ⟨gB, j * 4, none⟩ = some (.bool t0) /\ wr.cell? ⟨gB, j * 4 + 1, none⟩ = some (.slice T1 m1 d1) /\ wr.cell? ⟨gB, j * 4 + 2, none⟩ = some (.bool t2) /\ wr.cell? ⟨gB, j * 4 + 3, none⟩ = some (.slice T2 m2 d2)) := hide ⟨x1, x2, x3, x4⟩
   have HBE : Hid (OwnR wr 0 (.agg #[.bool t0, .slice T1 m1 d1, .bool t2, .slice T2 m2 d2]) b) := hide ho
   have HAB : Hid (gB ≠ gA) := hide (by
    rintro rfl
    unfold Row at hrA hrB
    rw [hrA] at hrB; injection hrB with hrB; injection hrB with _ hrB _; exact tRow_rat hrB)
   have HNA : Hid (∀ r ∈ ([(g0, 26, [.slice A1 n1 c1, .slice A2 n2 c2, .slice A3 n3 c3, .slice A4 n4 c4, .slice A5 n5 c5]), (g2, 31, [.slice none 0 0, .slice none 0 0, .slice none 0 0]), (g3, 36, [.bool false, .slice none 0 0, .bool false, .slice none 0 0]), (gs, 31, [.slice (some ⟨gA, 0, none⟩) n c, .slice (some ⟨gB, 0, none⟩) nB cB, .slice AC nC cC]), (gm, 36, [.bool s3, .slice P3 q3 e3, .bool false, .slice P3' q3' e3'])] : List (Nat × TypeId × List Value)), r.2.1 ≠ 22 ∨ r.1 ≠ gA) := hide (by
    intro r hr
    simp only [List.mem_cons, List.not_mem_nil, or_false] at hr
    rcases hr with rfl | rfl | rfl | rfl | rfl <;> (left; dsimp only; decide))
   have HNB : Hid (∀ r ∈ ([(g0, 26, [.slice A1 n1 c1, .slice A2 n2 c2, .slice A3 n3 c3, .slice A4 n4 c4, .slice A5 n5 c5]), (g2, 31, [.slice none 0 0, .slice none 0 0, .slice none 0 0]), (g3, 36, [.bool false, .slice none 0 0, .bool false, .slice none 0 0]), (gs, 31, [.slice (some ⟨gA, 0, none⟩) n c, .slice (some ⟨gB, 0, none⟩) nB cB, .slice AC nC cC]), (gm, 36, [.bool s3, .slice P3 q3 e3, .bool false, .slice P3' q3' e3'])] : List (Nat × TypeId × List Value)), r.2.1 ≠ 36 ∨ r.1 ≠ gB) := hide (by
    intro r hr
    have hgmb := HGMB.out gB rfl
    simp only [List.mem_cons, List.not_mem_nil, or_false] at hr
    rcases hr with rfl | rfl | rfl | rfl | rfl
    ·left; dsimp only; decide
    ·left; dsimp only; decide
    ·right; show g3 ≠ gB; omega
    ·left; dsimp only; decide
    ·right; show gm ≠ gB; omega)
   have HGA0 : Hid (w0.heap.size <= gA) := hide (by omega)
   have HGB0 : Hid (w0.heap.size <= gB) := hide (by omega)
   have HO3r : Hid (OwnR wr 0 (.agg #[.bool s3, .slice P3 q3 e3, .bool false, .slice P3' q3' e3']) (-1)) := hide (HO3m.out.keepU HKU.out)
   obtain ⟨tb, htb⟩ : ∃ t : Bool, decide (cmpQ b 0 < 0) = t := ⟨_, rfl⟩
   obtain ⟨cz, hcz⟩ : ∃ cz, cmpQ b 0 = cz := ⟨_, rfl⟩
   have HCZ := hide hcz
   have HTB : Hid (b < 0 ↔ tb = true) := hide (by
    rw [<- htb]; unfold cmpQ
    by_cases h1 : b < 0
    ·have h2 : b <= 0 := by grind
     have h3 : ¬ (0 : Rat) <= b := by grind
     simp [h1, h2, h3]
    ·by_cases h4 : 0 < b
     ·have h2 : ¬ b <= 0 := by grind
      have h3 : (0 : Rat) <= b := by grind
      simp [h1, h4, h2, h3]
     ·have h2 : b <= 0 := by grind
      have h3 : (0 : Rat) <= b := by grind
      simp [h1, h4, h2, h3])
   rw [hcz] at htb
   have hmx : Tryz.prog.follows .mixedOrders = true := by kernel_rfl
   have hj0 : (0 : Int) <= (j : Int) := by omega
   have hj1 : (j : Int) < n := by omega
   have hjB1 : (j : Int) < nB := by have := HJB.out; omega
   have hj2 : ((j : Int)).toNat = j := by omega
   have HT1 : Hid (∀ w', Later wr w' -> w'.cell? ⟨gs, 1, none⟩ = some (.slice (some ⟨gB, 0, none⟩) nB cB) /\ w'.cell? ⟨gB, j * 4, none⟩ = some (.bool t0) /\ w'.cell? ⟨gB, j * 4 + 1, none⟩ = some (.slice T1 m1 d1) /\ w'.cell? ⟨gB, j * 4 + 2, none⟩ = some (.bool t2) /\ w'.cell? ⟨gB, j * 4 + 3, none⟩ = some (.slice T2 m2 d2)) := hide fun w' hb => by
    have h1 := (HX.out.later hb) _ (List.mem_cons_of_mem _ (List.mem_cons_of_mem _ (List.mem_cons_of_mem _ (List.mem_cons_self ..))))
    obtain ⟨y1, y2, y3, y4⟩ := HBC.out
    exact ⟨h1.cell (i := 1) rfl, Later.cell hb y1, Later.cell hb y2, Later.cell hb y3, Later.cell hb y4⟩
   clear hrow hb hT hma hmb hsj hhj hru hrA hrB hrb x1 x2 x3 x4 ho hcz hhl hn2 hnB hcB
   go_upto_region 21 with fail
   refine wp_region_N (fun w' => w'.cell? ⟨gs, 1, none⟩ = some (.slice (some ⟨gB, 0, none⟩) nB cB) /\ w'.cell? ⟨gB, j * 4, none⟩ = some (.bool t0) /\ w'.cell? ⟨gB, j * 4 + 1, none⟩ = some (.slice T1 m1 d1) /\ w'.cell? ⟨gB, j * 4 + 2, none⟩ = some (.bool t2) /\ w'.cell? ⟨gB, j * 4 + 3, none⟩ = some (.slice T2 m2 d2)) [] hmx (HT1.out _ lt_) (fun hHeld => ?_)
   refine tkB 73 0 ?_
   refine tkB 74 1 ?_
   refine tkB 75 2 ?_
   refine tkB 76 3 ?_
   refine tkB 77 4 ?_
   refine wpAnyN_ready (rs := [5]) (by kernel_rfl) (by simp) ?_
   refine AllReadyN.held rfl (by rfl) (fun K hK => ?_) AllReadyN.nil
   go_simp
   refine (pzero_calls _).mono ?_
   rintro e w5 ⟨v5, rfl, o5, b5⟩
   obtain ⟨s5, P5, q5, e5, P5', q5', e5', rfl, o5⟩ := o5.open_; have O5 := hide o5; clear o5
   have l5 : Later wr w5 := Later.trans lt_ b5
   clear b5
   refine hK.out _ _ ?_ (fun hHeld => ?_)
   ·exact HT1.out _ lt_
   clear hK K
   try simp only [Act.put, s1_, s2_, s3_]
   refine wpAnyN_ready (rs := [6]) (by kernel_rfl) (by simp) ?_
   refine AllReadyN.held rfl (by rfl) (fun K hK => ?_) AllReadyN.nil
   go_simp
   refine (rcmp_calls _ _ _ b 0 200000 1 (OwnR.raw (OwnR.later HBE.out lt_) HBS.out) (OwnR.raw (OwnR.later O5.out lt_) sized_0) (by omega)).mono ?_
   rintro e w6 ⟨rfl, b6⟩
   have l6 : Later wr w6 := Later.trans lt_ b6
   rw [HCZ.out]
   clear b6
   refine hK.out _ _ ?_ (fun hHeld => ?_)
   ·exact HT1.out _ lt_
   clear hK K
   try simp only [Act.put, s1_, s2_, s3_]
   refine tkB 80 7 ?_
   refine wpAnyN_done (by kernel_rfl) ?_ _
   have HL6 := hide (show Later wr w6 from lt_)
   have HX6 := hide (HX.out.later HL6.out); have HTX6 := hide (HTX.out.later HL6.out)
   have HKU6 := hide (HKU.out.trans (KeepU.later HL6.out)); have HKK6 := hide (HKK.out.trans (KK.later (Nat.zero_le _) HL6.out))
   clear hHeld
   cases tb with
   | false =>
     have hnb : ¬ b < 0 := fun h => by have := HTB.out.mp h; cases this
     have HT : Hid (TabX w6 lo (.slice (some ⟨gA, 0, none⟩) n c) hs ((stdA P).take (j+1) ++ (wideA P).drop (j+1)) [.slice AC nC cC, .slice (some ⟨gB, 0, none⟩) nB cB] [stdC P, (stdB P).take (j+1) ++ (baseB P).drop (j+1)]) := hide (by
      rw [mix_skip HLA.out (by rw [HSA.out, flip_pos hnb]) HWA.out, mix_skip HLB.out (by rw [HSB.out]; congr 1; unfold sgq; rw [if_neg hnb]; grind) HBB.out]; exact HTX6.out)
     have HLL := hide (HL.out.trans HL6.out)
     clear hnb l5 l6
     go_wp2_with fail
     exact ⟨⟨j+1, by omega, by go_num, _, HT.out, HX6.out, HLL.out, HKU6.out, HKK6.out⟩, by simp [intOf]; omega⟩
   | true =>
     have hnb : b < 0 := HTB.out.mpr rfl
     have HMA : Hid (((stdA P).take j ++ (wideA P).drop j).set j (axpyL (List.replicate nj 0) row (-1)) = (stdA P).take (j+1) ++ (wideA P).drop (j+1)) := hide (mix_set HLA.out (by rw [HSA.out, flip_neg hnb, <- HNJ.out]))
     have HMB : Hid (((stdB P).take j ++ (baseB P).drop j).set j (b * -1) = (stdB P).take (j+1) ++ (baseB P).drop (j+1)) := hide (mix_set HLB.out (by rw [HSB.out]; congr 1; unfold sgq; rw [if_pos hnb]))
     have HT2 : Hid (∀ w', Later w6 w' -> w'.cell? ⟨gs, 0, none⟩ = some (.slice (some ⟨gA, 0, none⟩) n c) /\ w'.cell? ⟨gA, j, none⟩ = some (.slice Aj nj cj) /\ w'.cell? ⟨gm, 0, none⟩ = some (.bool s3) /\ w'.cell? ⟨gm, 1, none⟩ = some (.slice P3 q3 e3) /\ w'.cell? ⟨gm, 2, none⟩ = some (.bool false) /\ w'.cell? ⟨gm, 3, none⟩ = some (.slice P3' q3' e3')) := hide fun w' hb => by
      have h1 := (HX6.out.later hb) _ (List.mem_cons_of_mem _ (List.mem_cons_of_mem _ (List.mem_cons_of_mem _ (List.mem_cons_self ..))))
      have h2 := (HX6.out.later hb) _ (List.mem_cons_of_mem _ (List.mem_cons_of_mem _ (List.mem_cons_of_mem _ (List.mem_cons_of_mem _ (List.mem_cons_self ..)))))
      exact ⟨h1.cell (i := 0) rfl, (RA.out.later (HL6.out.trans hb)).cell HAJ.out, h2.cell (i := 0) rfl, h2.cell (i := 1) rfl, h2.cell (i := 2) rfl, h2.cell (i := 3) rfl⟩
     have HROWR : Hid (∀ W, Later w6 W -> Rats (ERaw (k+1)) W (.slice Aj nj cj) row) := hide fun W hW => HRR.out.later ERaw.later (HL6.out.trans hW)
     have HRLEN : Hid ((List.replicate nj (0 : Rat)).length = row.length) := hide (by rw [List.length_replicate, HNJ.out])
     have HZRAW : Hid (∀ W v, Rats EOwn W v (List.replicate nj 0) -> Rats (ERaw 1) W v (List.replicate nj 0)) := hide fun W v hv => hv.map fun u q hq ho => by
      rw [(List.mem_replicate.1 hq).2] at ho ⊢
      exact OwnR.raw (show OwnR W 0 u 0 from ho) sized_0
     have HLO6 : Hid (lo <= w6.heap.size) := hide (by have := HTX.out.own.lt gA rfl; have := HL6.out.size; omega)
     clear hnb l5 l6
     go_upto_region 22 with fail
     refine wp_region_M (fun w' => w'.cell? ⟨gs, 0, none⟩ = some (.slice (some ⟨gA, 0, none⟩) n c) /\ w'.cell? ⟨gA, j, none⟩ = some (.slice Aj nj cj) /\ w'.cell? ⟨gm, 0, none⟩ = some (.bool s3) /\ w'.cell? ⟨gm, 1, none⟩ = some (.slice P3 q3 e3) /\ w'.cell? ⟨gm, 2, none⟩ = some (.bool false) /\ w'.cell? ⟨gm, 3, none⟩ = some (.slice P3' q3' e3')) [22] hmx (HT2.out _ lt_) (fun hHeld => ?_)
     refine wpAnyM_takeD (some 82) (by rfl) (i := 0) (oi := _) (v := ?_) rfl (by kernel_rfl) (by kernel_rfl) (by kernel_rfl) (by kernel_rfl) (fun _ _ _ h => h) (Or.inl ⟨by rfl, ?_⟩) (by assumption) ?_
     rotate_left
     ·intro w hSw; (try dsimp only at hSw); go_simp
      first | done | with_reducible rfl
     try simp only [Act.put, s1_, s2_, s3_]
     refine wpAnyM_takeD (some 83) (by rfl) (i := 1) (oi := _) (v := ?_) rfl (by kernel_rfl) (by kernel_rfl) (by kernel_rfl) (by kernel_rfl) (fun _ _ _ h => h) (Or.inl ⟨by rfl, ?_⟩) (by assumption) ?_
     rotate_left
     ·intro w hSw; (try dsimp only at hSw); go_simp
      first | done | with_reducible rfl
     try simp only [Act.put, s1_, s2_, s3_]
     refine wpAnyM_takeD (some 84) (by rfl) (i := 2) (oi := _) (v := ?_) rfl (by kernel_rfl) (by kernel_rfl) (by kernel_rfl) (by kernel_rfl) (fun _ _ _ h => h) (Or.inl ⟨by rfl, ?_⟩) (by assumption) ?_
     rotate_left
     ·intro w hSw; (try dsimp only at hSw); go_simp
      first | done | with_reducible rfl
     try simp only [Act.put, s1_, s2_, s3_]
     refine wpAnyM_takeD (some 85) (by rfl) (i := 3) (oi := _) (v := ?_) rfl (by kernel_rfl) (by kernel_rfl) (by kernel_rfl) (by kernel_rfl) (fun _ _ _ h => h) (Or.inl ⟨by rfl, ?_⟩) (by assumption) ?_
     rotate_left
     ·intro w hSw; (try dsimp only at hSw); go_simp
      first | done | with_reducible rfl
     try simp only [Act.put, s1_, s2_, s3_]
     refine wpAnyM_takeD (some 86) (by rfl) (i := 4) (oi := _) (v := ?_) rfl (by kernel_rfl) (by kernel_rfl) (by kernel_rfl) (by kernel_rfl) (fun _ _ _ h => h) (Or.inl ⟨by rfl, ?_⟩) (by assumption) ?_
     rotate_left
     ·intro w hSw; (try dsimp only at hSw); go_simp
      first | done | with_reducible rfl
     try simp only [Act.put, s1_, s2_, s3_]
     refine wpAnyM_takeD (some 87) (by rfl) (i := 5) (oi := _) (v := ?_) rfl (by kernel_rfl) (by kernel_rfl) (by kernel_rfl) (by kernel_rfl) (fun _ _ _ h => h) (Or.inl ⟨by rfl, ?_⟩) (by assumption) ?_
     rotate_left
     ·intro w hSw; (try dsimp only at hSw); go_simp
      first | done | with_reducible rfl
     try simp only [Act.put, s1_, s2_, s3_]
     refine wpAnyM_takeD (some 88) (by rfl) (i := 6) (oi := _) (v := ?_) rfl (by kernel_rfl) (by kernel_rfl) (by kernel_rfl) (by kernel_rfl) (fun _ _ _ h => h) (Or.inl ⟨by rfl, ?_⟩) (by assumption) ?_
     rotate_left
     ·intro w hSw; (try dsimp only at hSw); go_simp
      first | done | with_reducible rfl
     try simp only [Act.put, s1_, s2_, s3_]
     refine wpAnyM_takeD (some 89) (by rfl) (i := 7) (oi := _) (v := ?_) rfl (by kernel_rfl) (by kernel_rfl) (by kernel_rfl) (by kernel_rfl) (fun _ _ _ h => h) (Or.inl ⟨by rfl, ?_⟩) (by assumption) ?_
     rotate_left
     ·intro w hSw; (try dsimp only at hSw); go_simp
      first | done | with_reducible rfl
     try simp only [Act.put, s1_, s2_, s3_]
     refine wpAnyM_takeD (some 90) (by rfl) (i := 8) (oi := _) (v := ?_) rfl (by kernel_rfl) (by kernel_rfl) (by kernel_rfl) (by kernel_rfl) (fun _ _ _ h => h) (Or.inl ⟨by rfl, ?_⟩) (by assumption) ?_
     rotate_left
     ·intro w hSw; (try dsimp only at hSw); go_simp
      first | done | with_reducible rfl
     try simp only [Act.put, s1_, s2_, s3_]
     refine wpAnyM_takeD (some 93) (by rfl) (i := 11) (oi := _) (v := ?_) rfl (by kernel_rfl) (by kernel_rfl) (by kernel_rfl) (by kernel_rfl) (fun _ _ _ h => h) (Or.inl ⟨by rfl, ?_⟩) (by assumption) ?_
     rotate_left
     ·intro w hSw; (try dsimp only at hSw); go_simp
      first | done | with_reducible rfl
     try simp only [Act.put, s1_, s2_, s3_]
     refine wpAnyM_takeD (some 94) (by rfl) (i := 12) (oi := _) (v := ?_) rfl (by kernel_rfl) (by kernel_rfl) (by kernel_rfl) (by kernel_rfl) (fun _ _ _ h => h) (Or.inl ⟨by rfl, ?_⟩) (by assumption) ?_
     rotate_left
     ·intro w hSw; (try dsimp only at hSw); go_simp
      first | done | with_reducible rfl
     try simp only [Act.put, s1_, s2_, s3_]
     refine wpAnyM_takeD (some 95) (by rfl) (i := 13) (oi := _) (v := ?_) rfl (by kernel_rfl) (by kernel_rfl) (by kernel_rfl) (by kernel_rfl) (fun _ _ _ h => h) (Or.inl ⟨by rfl, ?_⟩) (by assumption) ?_
     rotate_left
     ·intro w hSw; (try dsimp only at hSw); go_simp
      first | done | with_reducible rfl
     try simp only [Act.put, s1_, s2_, s3_]
     refine wpAnyM_takeD (some 96) (by rfl) (i := 14) (oi := _) (v := ?_) rfl (by kernel_rfl) (by kernel_rfl) (by kernel_rfl) (by kernel_rfl) (fun _ _ _ h => h) (Or.inl ⟨by rfl, ?_⟩) (by assumption) ?_
     rotate_left
     ·intro w hSw; (try dsimp only at hSw); go_simp
      first | done | with_reducible rfl
     try simp only [Act.put, s1_, s2_, s3_]
     refine wpAnyM_takeD (some 97) (by rfl) (i := 15) (oi := _) (v := ?_) rfl (by kernel_rfl) (by kernel_rfl) (by kernel_rfl) (by kernel_rfl) (fun _ _ _ h => h) (Or.inl ⟨by rfl, ?_⟩) (by assumption) ?_
     rotate_left
     ·intro w hSw; (try dsimp only at hSw); go_simp
      first | done | with_reducible rfl
     try simp only [Act.put, s1_, s2_, s3_]
     refine wpAnyM_takeD (some 98) (by rfl) (i := 16) (oi := _) (v := ?_) rfl (by kernel_rfl) (by kernel_rfl) (by kernel_rfl) (by kernel_rfl) (fun _ _ _ h => h) (Or.inl ⟨by rfl, ?_⟩) (by assumption) ?_
     rotate_left
     ·intro w hSw; (try dsimp only at hSw); go_simp
      first | done | with_reducible rfl
     try simp only [Act.put, s1_, s2_, s3_]
     refine wpAnyM_ready (rs := [9]) (by kernel_rfl) (by simp) ?_
     refine AllReadyM.held rfl (by rfl) (fun K hK => ?_) AllReadyM.nil
     refine wp_make_rats_ (.tmp 90) rfl _ nj rfl rfl (by omega) fun w9 zr zl => ?_
     have l9 : Later w6 w9 := Later.trans lt_ zl
     have ZR := hide zr
     clear zr zl
     refine hK.out _ _ ?_ (fun hHeld => ?_)
     ·exact HT2.out _ lt_
     clear hK K
     try simp only [Act.put, s1_, s2_, s3_]
     refine wpAnyM_ready (rs := [10]) (by kernel_rfl) (by simp) ?_
     refine AllReadyM.held rfl (by rfl) (fun K hK => ?_) AllReadyM.nil
     go_simp
     refine (pplain_calls _ _ (List.replicate nj 0) 1 (Rats.later ERaw.later ZR.out lt_) (by rw [List.length_replicate]; omega) (by omega)).mono ?_
     rintro e w10 ⟨v10, rfl, r10, b10⟩
     obtain ⟨A10, n10, c10, rfl⟩ := r10.form
     have l10 : Later w6 w10 := Later.trans lt_ b10
     have R10 := hide (RowU.rats r10)
     clear b10 r10
     refine hK.out _ _ ?_ (fun hHeld => ?_)
     ·exact HT2.out _ lt_
     clear hK K
     try simp only [Act.put, s1_, s2_, s3_]
     refine wpAnyM_ready (rs := [17]) (by kernel_rfl) (by simp) ?_
     refine AllReadyM.held rfl (by rfl) (fun K hK => ?_) AllReadyM.nil
     go_simp
     refine (addtimes_own _ _ _ _ (List.replicate nj 0) row (-1) 1 (k+1) 1 (HZRAW.out _ _ (Rats.later EOwn.later R10.out lt_)) (HROWR.out _ lt_) (OwnR.raw (OwnR.later HO3r.out (Later.trans HL6.out lt_)) sized_m1) HRLEN.out (by rw [List.length_replicate]; omega) (by omega)).mono ?_
     rintro e w17 ⟨v17, ok, rfl, ⟨o17, rfl⟩, b17⟩
     have l17 : Later w6 w17 := Later.trans lt_ b17
     have HU17 := hide (RowU.of_out o17)
     have HU17b : Hid (RowU w17 w6.heap.size v17 (axpyL (List.replicate nj 0) row (-1))) := hide (RowU.weaken HU17.out (show Later w6 _ from lt_).size)
     obtain ⟨A17, n17, c17, rfl⟩ := HU17b.out.form
     have rA17 := RA.out.later (HL6.out.trans l17)
     have dA := rA17.cell (i := j) HAJ.out; have fA := rA17.frozen j
     clear b17 o17 HU17
     refine hK.out _ _ ?_ (fun hHeld => ?_)
     ·exact HT2.out _ lt_
     clear hK K
     try simp only [Act.put, s1_, s2_, s3_]
     refine wpAnyM_takeD (some 81) (by rfl) (i := 18) (oi := _) (v := ?_) rfl (by kernel_rfl) (by kernel_rfl) (by kernel_rfl) (by kernel_rfl) (fun _ _ _ h => h) (Or.inl ⟨by rfl, ?_⟩) (by assumption) ?_
     rotate_left
     ·intro w hSw; (try dsimp only at hSw); go_simp
      first | done | with_reducible rfl
     try simp only [Act.put, s1_, s2_, s3_]
     refine wpAnyM_takeD (some 100) (by rfl) (i := 19) (oi := _) (v := ?_) rfl (by kernel_rfl) (by kernel_rfl) (by kernel_rfl) (by kernel_rfl) (fun _ _ _ h => h) (Or.inl ⟨by rfl, ?_⟩) (by assumption) ?_
     rotate_left
     ·intro w hSw; (try dsimp only at hSw); go_simp
      first | done | with_reducible rfl
     try simp only [Act.put, s1_, s2_, s3_]
     refine wpAnyM_takeP (some 101) (by rfl) (i := 20) (oi := _) (v := ?_) rfl (by kernel_rfl) (by kernel_rfl) (by kernel_rfl) (fun _ _ _ h => h) (Or.inl ⟨by rfl, ?_⟩) ?_
     rotate_left
     ·intro w hSw; clear hSw; go_simp
      first | done | with_reducible rfl
     try simp only [Act.put, s1_, s2_, s3_]
     refine wpAnyM_takeD (some 102) (by rfl) (i := 21) (oi := _) (v := ?_) rfl (by kernel_rfl) (by kernel_rfl) (by kernel_rfl) (by kernel_rfl) (fun _ _ _ h => h) (Or.inl ⟨by rfl, ?_⟩) (by assumption) ?_
     rotate_left
     ·intro w hSw; (try dsimp only at hSw); go_simp
      first | done | with_reducible rfl
     try simp only [Act.put, s1_, s2_, s3_]
     refine wpAnyM_ready (rs := [22]) (by kernel_rfl) (by simp) ?_
     refine AllReadyM.free rfl (by rfl) (by kernel_rfl) (fun K hK => ?_) AllReadyM.nil
     go_simp
     refine hK.out _ _ ?_
     clear hK K
     try simp only [Act.put, s1_, s2_, s3_]
     refine wpAnyM_done (by kernel_rfl) ?_ _
     have oA : Only gA w17 (w17.setCell ⟨gA, j, none⟩ (.slice A17 n17 c17)) := Only.one gA w17 _ _
     have HW22 : ∃ W, W = w17.setCell ⟨gA, j, none⟩ (.slice A17 n17 c17) := ⟨_, rfl⟩
     obtain ⟨w22, hw22⟩ := HW22
     rw [<- hw22] at oA
     have hT22 := (HTX6.out).put (i := j) HHJ.out (HU17b.out.weaken HLO6.out) (Later.grownBy l17 _) (KeepU.later l17) (.inr fun k hk => (HU17b.out.lt k hk).1) ⟨_, _, _, rfl⟩
     rw [<- hw22] at hT22
     rw [<- hw22]
     have HT22 := hide hT22
     have HL6b := hide (HL6.out.trans l17)
     have HX22 := hide ((HX6.out.later l17).only oA rA17 HNA.out)
     have HL22 := hide ((HL.out.trans HL6b.out).only oA HGA0.out)
     have HKU22 := hide ((HKU6.out.trans (KeepU.later l17)).trans (KeepU.only oA rA17 tRow_u32))
     have HKK22 : Hid (KK 0 wm w22) := hide (by
      rw [hw22]; exact HKK6.out.trans ((KK.later (Nat.zero_le _) l17).trans (KK.set (Nat.zero_le _) rA17 (by decide) (by decide))))
     have RB22 := hide ((RB.out.later HL6b.out).only oA HAB.out)
     have HBE2 : Hid (∀ W, Later w22 W -> OwnR W 0 (.agg #[.bool t0, .slice T1 m1 d1, .bool t2, .slice T2 m2 d2]) b) := hide fun W hW => (OwnR.keepU (OwnR.later HBE.out HL6b.out) (KeepU.only oA rA17 tRow_u32)).later hW
     have HKB : Hid (∀ W, Later w22 W -> W.cell? ⟨gB, j * 4, none⟩ = some (.bool t0) /\ W.cell? ⟨gB, j * 4 + 1, none⟩ = some (.slice T1 m1 d1) /\ W.cell? ⟨gB, j * 4 + 2, none⟩ = some (.bool t2) /\ W.cell? ⟨gB, j * 4 + 3, none⟩ = some (.slice T2 m2 d2)) := hide fun W hW => by
      obtain ⟨x1, x2, x3, x4⟩ := HBC.out
      have key : ∀ {o : Nat} {u : Value}, wr.cell? ⟨gB, o, none⟩ = some u -> W.cell? ⟨gB, o, none⟩ = some u := fun hx =>
       Later.cell hW ((World.cell?_of_block (oA.block gB HAB.out)).trans (Later.cell HL6b.out hx))
      exact ⟨key x1, key x2, key x3, key x4⟩
     have HO3 : Hid (∀ W, Later w22 W -> OwnR W 0 (.agg #[.bool s3, .slice P3 q3 e3, .bool false, .slice P3' q3' e3']) (-1)) := hide fun W hW => (OwnR.keepU (OwnR.later HO3r.out (Later.trans HL6.out l17)) (KeepU.only oA rA17 tRow_u32)).later hW
     have HT3 : Hid (∀ w', Later w22 w' -> w'.cell? ⟨gs, 1, none⟩ = some (.slice (some ⟨gB, 0, none⟩) nB cB) /\ w'.cell? ⟨gB, j * 4, none⟩ = some (.bool t0) /\ w'.cell? ⟨gB, j * 4 + 1, none⟩ = some (.slice T1 m1 d1) /\ w'.cell? ⟨gB, j * 4 + 2, none⟩ = some (.bool t2) /\ w'.cell? ⟨gB, j * 4 + 3, none⟩ = some (.slice T2 m2 d2) /\ w'.cell? ⟨gm, 0, none⟩ = some (.bool s3) /\ w'.cell? ⟨gm, 1, none⟩ = some (.slice P3 q3 e3) /\ w'.cell? ⟨gm, 2, none⟩ = some (.bool false) /\ w'.cell? ⟨gm, 3, none⟩ = some (.slice P3' q3' e3')) := hide fun w' hb => by
      have h1 := (HX22.out.later hb) _ (List.mem_cons_of_mem _ (List.mem_cons_of_mem _ (List.mem_cons_of_mem _ (List.mem_cons_self ..))))
      have h2 := (HX22.out.later hb) _ (List.mem_cons_of_mem _ (List.mem_cons_of_mem _ (List.mem_cons_of_mem _ (List.mem_cons_of_mem _ (List.mem_cons_self ..)))))
      obtain ⟨y1, y2, y3, y4⟩ := HKB.out _ hb
      exact ⟨h1.cell (i := 1) rfl, y1, y2, y3, y4, h2.cell (i := 0) rfl, h2.cell (i := 1) rfl, h2.cell (i := 2) rfl, h2.cell (i := 3) rfl⟩
     clear hT22 oA hHeld rA17 dA fA l9 l10 l17 hw22
     go_upto_region 23 with fail
     refine wp_region_N (fun w' => w'.cell? ⟨gs, 1, none⟩ = some (.slice (some ⟨gB, 0, none⟩) nB cB) /\ w'.cell? ⟨gB, j * 4, none⟩ = some (.bool t0) /\ w'.cell? ⟨gB, j * 4 + 1, none⟩ = some (.slice T1 m1 d1) /\ w'.cell? ⟨gB, j * 4 + 2, none⟩ = some (.bool t2) /\ w'.cell? ⟨gB, j * 4 + 3, none⟩ = some (.slice T2 m2 d2) /\ w'.cell? ⟨gm, 0, none⟩ = some (.bool s3) /\ w'.cell? ⟨gm, 1, none⟩ = some (.slice P3 q3 e3) /\ w'.cell? ⟨gm, 2, none⟩ = some (.bool false) /\ w'.cell? ⟨gm, 3, none⟩ = some (.slice P3' q3' e3')) [11] hmx (HT3.out _ lt_) (fun hHeld => ?_)
     refine tkB 103 0 ?_
     refine tkB 104 1 ?_
     refine tkB 105 2 ?_
     refine tkB 106 3 ?_
     refine tkB 107 4 ?_
     refine tkB 108 5 ?_
     refine tkB 109 6 ?_
     refine tkB 110 7 ?_
     refine tkB 111 8 ?_
     refine wpAnyN_ready (rs := [9]) (by kernel_rfl) (by simp) ?_
     refine AllReadyN.held rfl (by rfl) (fun K hK => ?_) AllReadyN.nil
     go_simp
     refine (rmul_calls _ _ _ b (-1) 200000 1 (OwnR.raw (HBE2.out _ lt_) HBS.out) (OwnR.raw (HO3.out _ lt_) sized_m1) (by omega)).mono ?_
     rintro e w23 ⟨v23, rfl, o23, b23⟩
     obtain ⟨s23, P23, q23, e23, P23', q23', e23', rfl, o23⟩ := o23.open_; have O23 := hide o23; clear o23
     have l23 : Later w22 w23 := Later.trans lt_ b23
     have rB23 := RB22.out.later l23
     have fB0 := rB23.frozen (j * 4); have fB1 := rB23.frozen (j * 4 + 1); have fB2 := rB23.frozen (j * 4 + 2); have fB3 := rB23.frozen (j * 4 + 3)
     obtain ⟨kB0, kB1, kB2, kB3⟩ := HKB.out _ l23
     clear b23 rB23
     refine hK.out _ _ ?_ (fun hHeld => ?_)
     ·exact HT3.out _ lt_
     clear hK K
     try simp only [Act.put, s1_, s2_, s3_]
     refine tkB 113 10 ?_
     refine wpAnyN_ready (rs := [11]) (by kernel_rfl) (by simp) ?_
     refine AllReadyN.free rfl (by rfl) (by kernel_rfl) (fun K hK => ?_) AllReadyN.nil
     go_simp
     refine hK.out _ _ ?_
     clear hK K
     try simp only [Act.put, s1_, s2_, s3_]
     refine wpAnyN_done (by kernel_rfl) ?_ _
     have oB : Only gB w23 ((((w23.setCell ⟨gB, j * 4, none⟩ (.bool s23)).setCell ⟨gB, j * 4 + 1, none⟩ (.slice P23 q23 e23)).setCell ⟨gB, j * 4 + 2, none⟩ (.bool false)).setCell ⟨gB, j * 4 + 3, none⟩ (.slice P23' q23' e23')) := (((Only.one gB w23 _ _).set _ _).set _ _).set _ _
     have hT23 := (HT22.out.later l23).putX (i := 1) (bl := (stdB P).take j ++ (baseB P).drop j) rfl rfl HJB.out rfl (OwnR.later O23.out (Later.refl _))
     have HT : Hid (TabX ((((w23.setCell ⟨gB, j * 4, none⟩ (.bool s23)).setCell ⟨gB, j * 4 + 1, none⟩ (.slice P23 q23 e23)).setCell ⟨gB, j * 4 + 2, none⟩ (.bool false)).setCell ⟨gB, j * 4 + 3, none⟩ (.slice P23' q23' e23')) lo (.slice (some ⟨gA, 0, none⟩) n c) (hs.set j (.slice A17 n17 c17)) ((stdA P).take (j+1) ++ (wideA P).drop (j+1)) [.slice AC nC cC, .slice (some ⟨gB, 0, none⟩) nB cB] [stdC P, (stdB P).take (j+1) ++ (baseB P).drop (j+1)]) := hide (by
      rw [<- HMA.out, <- HMB.out]; exact hT23)
     have HX : Hid (Boxes ((((w23.setCell ⟨gB, j * 4, none⟩ (.bool s23)).setCell ⟨gB, j * 4 + 1, none⟩ (.slice P23 q23 e23)).setCell ⟨gB, j * 4 + 2, none⟩ (.bool false)).setCell ⟨gB, j * 4 + 3, none⟩ (.slice P23' q23' e23')) [(g0, 26, [.slice A1 n1 c1, .slice A2 n2 c2, .slice A3 n3 c3, .slice A4 n4 c4, .slice A5 n5 c5]), (g2, 31, [.slice none 0 0, .slice none 0 0, .slice none 0 0]), (g3, 36, [.bool false, .slice none 0 0, .bool false, .slice none 0 0]), (gs, 31, [.slice (some ⟨gA, 0, none⟩) n c, .slice (some ⟨gB, 0, none⟩) nB cB, .slice AC nC cC]), (gm, 36, [.bool s3, .slice P3 q3 e3, .bool false, .slice P3' q3' e3'])]) := hide ((HX22.out.later l23).only oB (RB22.out.later l23) HNB.out)
     have HKU23 := hide ((HKU22.out.trans (KeepU.later l23)).trans (KeepU.only oB (RB22.out.later l23) tRat_u32))
     have HKK23 : Hid (KK 0 wm ((((w23.setCell ⟨gB, j * 4, none⟩ (.bool s23)).setCell ⟨gB, j * 4 + 1, none⟩ (.slice P23 q23 e23)).setCell ⟨gB, j * 4 + 2, none⟩ (.bool false)).setCell ⟨gB, j * 4 + 3, none⟩ (.slice P23' q23' e23'))) := hide (by
      have r0 := RB22.out.later l23
      have r1 := r0.set_ (j * 4) (.bool s23); have r2 := r1.set_ (j * 4 + 1) (.slice P23 q23 e23); have r3 := r2.set_ (j * 4 + 2) (.bool false)
      exact HKK22.out.trans ((KK.later (Nat.zero_le _) l23).trans ((KK.set (Nat.zero_le _) r0 (by decide) (by decide)).trans ((KK.set (Nat.zero_le _) r1 (by decide) (by decide)).trans ((KK.set (Nat.zero_le _) r2 (by decide) (by decide)).trans (KK.set (Nat.zero_le _) r3 (by decide) (by decide)))))))
     have HLL : Hid (Later w0 ((((w23.setCell ⟨gB, j * 4, none⟩ (.bool s23)).setCell ⟨gB, j * 4 + 1, none⟩ (.slice P23 q23 e23)).setCell ⟨gB, j * 4 + 2, none⟩ (.bool false)).setCell ⟨gB, j * 4 + 3, none⟩ (.slice P23' q23' e23'))) := hide ((HL22.out.trans l23).only oB HGB0.out)
     clear hT23 hHeld oB kB0 kB1 kB2 kB3 fB0 fB1 fB2 fB3 l23
     go_wp2_with fail
     exact ⟨⟨j+1, by omega, by go_num, _, HT.out, HX.out, HLL.out, HKU23.out, HKK23.out⟩, by simp [intOf]; omega⟩
  ·have HF : Hid (TabX wr lo (.slice A n c) hs (stdA P) [.slice AC nC cC, .slice AB nB cB] [stdC P, stdB P]) := hide (by
    have h1 := HTX.out
    have hjn2 : j = (wideA P).length := by have := HNL.out; omega
    have e1 : (stdA P).take j ++ (wideA P).drop j = stdA P := by rw [hjn2]; exact mix_all HLA.out
    have e2 : (stdB P).take j ++ (baseB P).drop j = stdB P := by rw [hjn2, <- HLAB.out]; exact mix_all HLB.out
    rw [e1, e2] at h1; exact h1)
   have hj1 : ¬ (j : Int) < n := by omega
   clear hT HTX
   have r0 := HX.out _ (List.mem_cons_self ..)
   have d0 := r0.cell (i := 0) rfl; have d1 := r0.cell (i := 1) rfl; have d2 := r0.cell (i := 2) rfl; have d3 := r0.cell (i := 3) rfl; have d4 := r0.cell (i := 4) rfl
   have HSZ : Hid ((P.cost.length + 1) * (k + k + 4) <= 50000000) := hide (by
    have : (P.cost.length + 1) * (k + k + 4) <= 25 * 2004 := Nat.mul_le_mul (by omega) (by omega)
    omega)
   clear r0
   go_upto_region 26 with ((with_reducible refine (dot_calls _ _ _ P.cost P.lo k k (H.out.later HL.out).cost (H.out.later HL.out).lo HP.out.lo.symm HSZ.out).mono ?_); rintro e w25 ⟨v25, ok, rfl, ⟨o25, rfl⟩, b25⟩; obtain ⟨s25, P25, q25, e25, P25', q25', e25', rfl, o25⟩ := o25.open_; have O25 := hide o25; clear o25)
   clear d0 d1 d2 d3 d4
   obtain ⟨wz, hwz⟩ : ∃ wz, wz = w25.alloc (Obj.cells #[Value.bool s25, Value.slice P25 q25 e25, Value.bool false, Value.slice P25' q25' e25'] 36) := ⟨_, rfl⟩
   obtain ⟨gz, hgz⟩ : ∃ gz, gz = w25.heap.size := ⟨_, rfl⟩
   have bwz : Later w25 wz := by rw [hwz]; exact (Later.refl _).alloc _
   have rgz : Row wz gz 36 [.bool s25, .slice P25 q25 e25, .bool false, .slice P25' q25' e25'] := by rw [hwz, hgz]; exact Row.new _ _ _
   rw [<- hwz, <- hgz]
   have HKz := hide (HKm.out.trans (HKK.out.trans (KK.later (Nat.zero_le _) (b25.trans bwz)))); have HLz := hide (HL.out.trans (b25.trans bwz)); have HXz := hide (HX.out.later (b25.trans bwz)); have RZ := hide rgz; have HFz := hide (HF.out.later (b25.trans bwz))
   have HOz := hide (OwnR.later O25.out bwz)
   have hgg : g2 < gz := by
    have q1 : g2 < wr.heap.size := (HX.out _ (List.mem_cons_of_mem _ (List.mem_cons_self ..))).lt
    have q2 := b25.size
    rw [hgz]; omega
   clear hwz hgz bwz rgz b25 HX HF HL
   have R2 : Hid (Row wz g2 31 [.slice none 0 0, .slice none 0 0, .slice none 0 0]) := hide (HXz.out _ (List.mem_cons_of_mem _ (List.mem_cons_self ..)))
   have R3 : Hid (Row wz g3 36 [.bool false, .slice none 0 0, .bool false, .slice none 0 0]) := hide (HXz.out _ (List.mem_cons_of_mem _ (List.mem_cons_of_mem _ (List.mem_cons_self ..))))
   have RS : Hid (Row wz gs 31 [.slice A n c, .slice AB nB cB, .slice AC nC cC]) := hide (HXz.out _ (List.mem_cons_of_mem _ (List.mem_cons_of_mem _ (List.mem_cons_of_mem _ (List.mem_cons_self ..)))))
   have HT6 : Hid (∀ w', Later wz w' -> w'.cell? ⟨gs, 0, none⟩ = some (.slice A n c) /\ w'.cell? ⟨gs, 1, none⟩ = some (.slice AB nB cB) /\ w'.cell? ⟨gs, 2, none⟩ = some (.slice AC nC cC) /\ w'.cell? ⟨gz, 0, none⟩ = some (.bool s25) /\ w'.cell? ⟨gz, 1, none⟩ = some (.slice P25 q25 e25) /\ w'.cell? ⟨gz, 2, none⟩ = some (.bool false) /\ w'.cell? ⟨gz, 3, none⟩ = some (.slice P25' q25' e25')) := hide fun w' hb => by
    have h1 := RS.out.later hb; have h2 := RZ.out.later hb
    exact ⟨h1.cell (i := 0) rfl, h1.cell (i := 1) rfl, h1.cell (i := 2) rfl, h2.cell (i := 0) rfl, h2.cell (i := 1) rfl, h2.cell (i := 2) rfl, h2.cell (i := 3) rfl⟩
   have HT7 : Hid (∀ w', Later wz w' -> (((w'.setCell ⟨g2, 0, none⟩ (.slice A n c)).setCell ⟨g2, 1, none⟩ (.slice AB nB cB)).setCell ⟨g2, 2, none⟩ (.slice AC nC cC)).cell? ⟨gs, 0, none⟩ = some (.slice A n c) /\ (((w'.setCell ⟨g2, 0, none⟩ (.slice A n c)).setCell ⟨g2, 1, none⟩ (.slice AB nB cB)).setCell ⟨g2, 2, none⟩ (.slice AC nC cC)).cell? ⟨gs, 1, none⟩ = some (.slice AB nB cB) /\ (((w'.setCell ⟨g2, 0, none⟩ (.slice A n c)).setCell ⟨g2, 1, none⟩ (.slice AB nB cB)).setCell ⟨g2, 2, none⟩ (.slice AC nC cC)).cell? ⟨gs, 2, none⟩ = some (.slice AC nC cC) /\ (((w'.setCell ⟨g2, 0, none⟩ (.slice A n c)).setCell ⟨g2, 1, none⟩ (.slice AB nB cB)).setCell ⟨g2, 2, none⟩ (.slice AC nC cC)).cell? ⟨gz, 0, none⟩ = some (.bool s25) /\ (((w'.setCell ⟨g2, 0, none⟩ (.slice A n c)).setCell ⟨g2, 1, none⟩ (.slice AB nB cB)).setCell ⟨g2, 2, none⟩ (.slice AC nC cC)).cell? ⟨gz, 1, none⟩ = some (.slice P25 q25 e25) /\ (((w'.setCell ⟨g2, 0, none⟩ (.slice A n c)).setCell ⟨g2, 1, none⟩ (.slice AB nB cB)).setCell ⟨g2, 2, none⟩ (.slice AC nC cC)).cell? ⟨gz, 2, none⟩ = some (.bool false) /\ (((w'.setCell ⟨g2, 0, none⟩ (.slice A n c)).setCell ⟨g2, 1, none⟩ (.slice AB nB cB)).setCell ⟨g2, 2, none⟩ (.slice AC nC cC)).cell? ⟨gz, 3, none⟩ = some (.slice P25' q25' e25')) := hide fun w' hb => by
    have oo : Only g2 w' (((w'.setCell ⟨g2, 0, none⟩ (.slice A n c)).setCell ⟨g2, 1, none⟩ (.slice AB nB cB)).setCell ⟨g2, 2, none⟩ (.slice AC nC cC)) := ((Only.one g2 w' _ _).set _ _).set _ _
    have h1 := (RS.out.later hb).only oo (Ne.symm hgs); have h2 := (RZ.out.later hb).only oo (by omega)
    exact ⟨h1.cell (i := 0) rfl, h1.cell (i := 1) rfl, h1.cell (i := 2) rfl, h2.cell (i := 0) rfl, h2.cell (i := 1) rfl, h2.cell (i := 2) rfl, h2.cell (i := 3) rfl⟩
   have hmx : Tryz.prog.follows .mixedOrders = true := by kernel_rfl
   refine wp_region_N (fun w' => w'.cell? ⟨gs, 0, none⟩ = some (.slice A n c) /\ w'.cell? ⟨gs, 1, none⟩ = some (.slice AB nB cB) /\ w'.cell? ⟨gs, 2, none⟩ = some (.slice AC nC cC) /\ w'.cell? ⟨gz, 0, none⟩ = some (.bool s25) /\ w'.cell? ⟨gz, 1, none⟩ = some (.slice P25 q25 e25) /\ w'.cell? ⟨gz, 2, none⟩ = some (.bool false) /\ w'.cell? ⟨gz, 3, none⟩ = some (.slice P25' q25' e25')) [3, 4] hmx (HT6.out _ lt_) (fun hHeld => ?_)
   refine tkB 123 0 ?_
   refine tkB 124 1 ?_
   refine wpAnyN_ready (rs := [2]) (by kernel_rfl) (by simp) ?_
   refine AllReadyN.held rfl (by rfl) (fun K hK => ?_) AllReadyN.nil
   have k20 := R2.out.cell (i := 0) rfl; have k21 := R2.out.cell (i := 1) rfl; have k22 := R2.out.cell (i := 2) rfl; have f20 := R2.out.frozen 0; have f21 := R2.out.frozen 1; have f22 := R2.out.frozen 2
   go_simp
   refine hK.out _ _ ?_ (fun hHeld => ?_)
   ·exact HT7.out wz (Later.refl _)
   clear hK K
   try simp only [Act.put, s1_, s2_, s3_]
   refine wpAnyN_ready (rs := [3]) (by kernel_rfl) (by simp) ?_
   refine AllReadyN.free rfl (by rfl) (by kernel_rfl) (fun K hK => ?_) AllReadyN.nil
   clear k20 k21 k22 f20 f21 f22
   obtain ⟨wy, hwy⟩ : ∃ W, W = (((wz.setCell ⟨g2, 0, none⟩ (.slice A n c)).setCell ⟨g2, 1, none⟩ (.slice AB nB cB)).setCell ⟨g2, 2, none⟩ (.slice AC nC cC)).drew := ⟨_, rfl⟩
   rw [<- hwy]
   have o2 : Only g2 wz (((wz.setCell ⟨g2, 0, none⟩ (.slice A n c)).setCell ⟨g2, 1, none⟩ (.slice AB nB cB)).setCell ⟨g2, 2, none⟩ (.slice AC nC cC)) := ((Only.one g2 wz _ _).set _ _).set _ _
   have r2 := R2.out
   have r2b : Row (((wz.setCell ⟨g2, 0, none⟩ (.slice A n c)).setCell ⟨g2, 1, none⟩ (.slice AB nB cB)).setCell ⟨g2, 2, none⟩ (.slice AC nC cC)) g2 31 [.slice A n c, .slice AB nB cB, .slice AC nC cC] := ((r2.set_ 0 (.slice A n c)).set_ 1 (.slice AB nB cB)).set_ 2 (.slice AC nC cC)
   have hdr : Later (((wz.setCell ⟨g2, 0, none⟩ (.slice A n c)).setCell ⟨g2, 1, none⟩ (.slice AB nB cB)).setCell ⟨g2, 2, none⟩ (.slice AC nC cC)) wy := by rw [hwy]; exact (Later.refl _).drew
   have R2y := hide (r2b.later hdr)
   have r3 := (R3.out.only o2 (by omega)).later hdr
   have R3y := hide r3
   have HFy := hide ((HFz.out.only_low o2 r2 (by decide) hlo2).later hdr)
   have HOy := hide (OwnR.later (OwnR.keepU HOz.out (KeepU.only o2 r2 (by decide))) hdr)
   have HLy := hide ((HLz.out.only o2 hg2).trans hdr)
   have HKy : Hid (KK 0 wr0 wy) := hide (HKz.out.trans (((KK.set (Nat.zero_le _) r2 (by decide) (by decide)).trans ((KK.set (Nat.zero_le _) (r2.set_ 0 (.slice A n c)) (by decide) (by decide)).trans (KK.set (Nat.zero_le _) ((r2.set_ 0 (.slice A n c)).set_ 1 (.slice AB nB cB)) (by decide) (by decide)))).trans (KK.later (Nat.zero_le _) hdr)))
   obtain ⟨k30, k31, k32, k33, f30, f31, f32, f33⟩ := row_cells4 r3
   clear r3 o2 r2 r2b hdr hwy hHeld
   go_simp
   refine hK.out _ _ ?_
   clear hK K
   try simp only [Act.put, s1_, s2_, s3_]
   refine wpAnyN_ready (rs := [4]) (by kernel_rfl) (by simp) ?_
   refine AllReadyN.free rfl (by rfl) (by kernel_rfl) (fun K hK => ?_) AllReadyN.nil
   go_simp
   refine hK.out _ _ ?_
   clear hK K
   try simp only [Act.put, s1_, s2_, s3_]
   refine wpAnyN_done (by kernel_rfl) ?_ _
   have o3 : Only g3 wy ((((wy.setCell ⟨g3, 0, none⟩ (.bool s25)).setCell ⟨g3, 1, none⟩ (.slice P25 q25 e25)).setCell ⟨g3, 2, none⟩ (.bool false)).setCell ⟨g3, 3, none⟩ (.slice P25' q25' e25')) := Only.four g3 _ _ _ _ _
   have F1 := hide (R2y.out.only o3 (by omega))
   have F2 : Hid (Row ((((wy.setCell ⟨g3, 0, none⟩ (.bool s25)).setCell ⟨g3, 1, none⟩ (.slice P25 q25 e25)).setCell ⟨g3, 2, none⟩ (.bool false)).setCell ⟨g3, 3, none⟩ (.slice P25' q25' e25')) g3 36 [.bool s25, .slice P25 q25 e25, .bool false, .slice P25' q25' e25']) := hide (R3y.out.four _ _ _ _)
   have F3 := hide (HFy.out.only_low o3 R3y.out (by decide) hlo3)
   have F4 : Hid (OwnR ((((wy.setCell ⟨g3, 0, none⟩ (.bool s25)).setCell ⟨g3, 1, none⟩ (.slice P25 q25 e25)).setCell ⟨g3, 2, none⟩ (.bool false)).setCell ⟨g3, 3, none⟩ (.slice P25' q25' e25')) 0 (.agg #[.bool s25, .slice P25 q25 e25, .bool false, .slice P25' q25' e25']) (restV P)) := hide (OwnR.keepU HOy.out (KeepU.only o3 R3y.out (by decide)))
   have F5 := hide (HLy.out.only o3 hg3)
   have F6 : Hid (KK 0 wr0 ((((wy.setCell ⟨g3, 0, none⟩ (.bool s25)).setCell ⟨g3, 1, none⟩ (.slice P25 q25 e25)).setCell ⟨g3, 2, none⟩ (.bool false)).setCell ⟨g3, 3, none⟩ (.slice P25' q25' e25'))) := hide (HKy.out.trans (KK.set (Nat.zero_le _) R3y.out (by decide) (by decide) |>.trans ((KK.set (Nat.zero_le _) (R3y.out.set_ 0 (.bool s25)) (by decide) (by decide)).trans ((KK.set (Nat.zero_le _) ((R3y.out.set_ 0 (.bool s25)).set_ 1 (.slice P25 q25 e25)) (by decide) (by decide)).trans (KK.set (Nat.zero_le _) (((R3y.out.set_ 0 (.bool s25)).set_ 1 (.slice P25 q25 e25)).set_ 2 (.bool false)) (by decide) (by decide))))))
   clear o3 k30 k31 k32 k33 f30 f31 f32 f33
   go_wp2_with fail
   exact HQ.out _ _ _ _ _ _ _ _ _ _ _ rfl rfl rfl rfl F1.out F2.out F3.out F4.out F5.out F6.out.oth
end Go.Proofs.YtfokplidiboabaaGreat
