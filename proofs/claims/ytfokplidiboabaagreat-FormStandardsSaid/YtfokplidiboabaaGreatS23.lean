/- Problems: Standard (the program): a column more. -/
import Derived.RangeFuncBox
import Derived.Test.YtfokplidiboabaaGreatS8
import Derived.RangeFuncNested
import Derived.RangeFuncBound
import Derived.RangeFuncCalls
import Derived.RangeFuncLeaves
import Derived.Shelf.Abstract
import Derived.Shelf.RegionOpen
import Derived.OwnWalkIn
import Derived.TacticsInMore
import Derived.LoopNIn
import Derived.LoopIn
import Derived.Test.YtfokplidiboabaaGreatS22
set_option linter.unusedVariables false
set_option linter.unusedSimpArgs false
set_option maxRecDepth 100000
namespace Go.Proofs.YtfokplidiboabaaGreat
open Go.RowKit Go.Shelf
attribute [local go_sem] Oper.semAt_some
def blkIn : Code -> Code
 | .block _ c => c
 | c => c
def rfBody : Code -> Code
 | .rangeFunc _ _ _ b => b
 | c => c
def normOnly (R : Act -> World -> Prop) : Exit -> Act -> World -> Prop
 | .normal, a, w => R a w
 | _, _, _ => False
set_option maxHeartbeats 16000000 in
theorem pstd_body (l m : Nat) (w2 : World) (k : Nat) (P : PLp) (A1 A2 A3 A4 A5 : Option Addr) (n1 n2 n3 n4 n5 c1 c2 c3 c4 c5 : Nat) (A AB AC : Option Addr) (n nB nC c cB cC : Nat) (hs : List Value) (ex : List (Nat × Rat)) (key : Nat × Rat) (e : RCells) (g0 g2 g3 gs gx lo B0 : Nat)
 (hm : 1 <= m) (hT : TabX w2 lo (.slice A n c) hs (wideW ex (baseA P)) [.slice AC nC cC, .slice AB nB cB] [P.cost ++ List.replicate ex.length 0, baseB P]) (hX : Boxes w2 [(g0, 26, [.slice A1 n1 c1, .slice A2 n2 c2, .slice A3 n3 c3, .slice A4 n4 c4, .slice A5 n5 c5]), (g2, 31, [.slice none 0 0, .slice none 0 0, .slice none 0 0]), (g3, 36, [.bool false, .slice none 0 0, .bool false, .slice none 0 0]), (gs, 31, [.slice A n c, .slice AB nB cB, .slice AC nC cC]), (gx, 36, [.bool e.a, .slice e.A e.n e.c, .bool e.a', .slice e.A' e.n' e.c'])]) (hq : OwnR w2 0 e.val key.2) (hk48 : key.1 < 48) (hex : ex.length < 48) (hP : LpP P)
 (hgx : ∀ u ∈ ([.slice AC nC cC, .slice AB nB cB] ++ hs : List Value), u.ownBlock ≠ some gx) (hlo3 : g3 < lo) (hlow : lo <= w2.heap.size) (hB0 : B0 <= lo) (hB0s : B0 <= gs) (hg2s : g2 ≠ gs) (v0 v8 v9 v10 v11 v12 v13 v14 v15 v16 v17 v18 v19 v20 v21 v22 v23 v24 v25 v26 v27 v28 v29 v30 v31 v32 v33 v34 v35 v36 v37 v38 v39 v40 v41 v42 v43 v44 v45 v46 v47 v48 v49 v50 v51 v52 v53 v54 v55 v56 v57 v58 v59 v60 v61 v62 v63 v64 v65 v66 v67 v68 v69 v70 v71 v72 v73 v74 v75 v76 v77 v78 v79 v80 v81 v82 v83 v84 v85 v86 v87 v88 v89 v90 v91 v92 v93 v94 v95 v96 v97 v98 v99 v100 v101 v102 v103 v104 v105 v106 v107 v108 v109 v110 v111 v112 v113 v114 v115 v116 v117 v118 v119 v120 v121 v122 v123 v124 : Value) (R : Act -> World -> Prop)
 (hR : ∀ (a' : Act) (w' : World) (AC' : Option Addr) (nC' cC' : Nat) (hs' : List Value), TabX w' lo (.slice A n c) hs' (wideW (ex ++ [key]) (baseA P)) [.slice AC' nC' cC', .slice AB nB cB] [P.cost ++ List.replicate (ex.length + 1) 0, baseB P] -> Boxes w' [(g0, 26, [.slice A1 n1 c1, .slice A2 n2 c2, .slice A3 n3 c3, .slice A4 n4 c4, .slice A5 n5 c5]), (g2, 31, [.slice none 0 0, .slice none 0 0, .slice none 0 0]), (g3, 36, [.bool false, .slice none 0 0, .bool false, .slice none 0 0]), (gs, 31, [.slice A n c, .slice AB nB cB, .slice AC' nC' cC'])] -> KK B0 w2 w' -> R a' w') :
 (rfBody (blkIn (sSnd (sFst (sSnd (sSnd (sSnd (sSnd (Tryz.f17.body.getD .skip))))))))).wpIn (Fence.wide.inRound l) m Tryz.prog (normOnly R) { tmps := #[v0, .pointer (some ⟨g0, 0, none⟩), .pointer (some ⟨g2, 0, none⟩), .pointer (some ⟨g3, 0, none⟩), .int .i64 0, .pointer (some ⟨gs, 0, none⟩), .int .i64 (key.1 : Int), .pointer (some ⟨gx, 0, none⟩), v8, v9, v10, v11, v12, v13, v14, v15, v16, v17, v18, v19, v20, v21, v22, v23, v24, v25, v26, v27, v28, v29, v30, v31, v32, v33, v34, v35, v36, v37, v38, v39, v40, v41, v42, v43, v44, v45, v46, v47, v48, v49, v50, v51, v52, v53, v54, v55, v56, v57, v58, v59, v60, v61, v62, v63, v64, v65, v66, v67, v68, v69, v70, v71, v72, v73, v74, v75, v76, v77, v78, v79, v80, v81, v82, v83, v84, v85, v86, v87, v88, v89, v90, v91, v92, v93, v94, v95, v96, v97, v98, v99, v100, v101, v102, v103, v104, v105, v106, v107, v108, v109, v110, v111, v112, v113, v114, v115, v116, v117, v118, v119, v120, v121, v122, v123, v124], defers := [] } w2 := by
 obtain ⟨CT, hCT⟩ : ∃ C, C = (rfBody (blkIn (sSnd (sFst (sSnd (sSnd (sSnd (sSnd (Tryz.f17.body.getD .skip))))))))) := ⟨_, rfl⟩
 rw [<- hCT]
 conv at hCT => rhs; whnf
 subst hCT
 have HTX := hide hT; have HX := hide hX; have HQ := hide hq; have HP := hide hP; have HGX := hide hgx; have HR := hide hR
 have hnl : n = hs.length := by
  obtain ⟨-, k2⟩ := hT.own
  rcases k2 with ⟨e, e2⟩ | ⟨g, c', cur, e, -⟩
  ·injection e with _ e _; omega
  ·injection e
 have HNL : Hid (n = (baseA P).length) := hide (by rw [hnl, hT.ht, wideW_len])
 have hn48 : n <= 48 := by
  have h1 := HNL.out; rw [baseA_len] at h1
  have := hP.rl; have := endsL_len_le hP; omega
 have rs := hX _ (List.mem_cons_of_mem _ (List.mem_cons_of_mem _ (List.mem_cons_of_mem _ (List.mem_cons_self ..))))
 have d0 := rs.cell (i := 0) rfl
 clear hT hX hq hP hgx hR hnl rs
 gi_wp2
 clear d0
 have hmx : Tryz.prog.follows .mixedOrders = true := by kernel_rfl
 have HGXL : Hid (gx < w2.heap.size) := hide (HX.out _ (List.mem_cons_of_mem _ (List.mem_cons_of_mem _ (List.mem_cons_of_mem _ (List.mem_cons_of_mem _ (List.mem_cons_self ..)))))).lt
 gi_loopw [37] (fun i wr => ∃ j : Nat, j <= n /\ i = .int .i64 (j : Int) /\ ∃ hs, TabX wr lo (.slice A n c) hs ((wideW (ex ++ [key]) (baseA P)).take j ++ (wideW ex (baseA P)).drop j) [.slice AC nC cC, .slice AB nB cB] [P.cost ++ List.replicate ex.length 0, baseB P] /\ Boxes wr [(g0, 26, [.slice A1 n1 c1, .slice A2 n2 c2, .slice A3 n3 c3, .slice A4 n4 c4, .slice A5 n5 c5]), (g2, 31, [.slice none 0 0, .slice none 0 0, .slice none 0 0]), (g3, 36, [.bool false, .slice none 0 0, .bool false, .slice none 0 0]), (gs, 31, [.slice A n c, .slice AB nB cB, .slice AC nC cC]), (gx, 36, [.bool e.a, .slice e.A e.n e.c, .bool e.a', .slice e.A' e.n' e.c'])] /\ KK B0 w2 wr /\ KeepU w2 wr /\ (∀ u ∈ ([.slice AC nC cC, .slice AB nB cB] ++ hs : List Value), u.ownBlock ≠ some gx)) (fun i _ => (n - intOf i).toNat)
 case atStart => exact ⟨0, by omega, rfl, hs, by simpa using HTX.out, HX.out, KK.refl _ _, KeepU.refl _, HGX.out⟩
 case round =>
  clear HTX HX HGX hs
  obtain ⟨j, hj, rfl, hs, hT, hX, hkk, hku, hgx⟩ := hrel
  have HTX := hide hT; have HX := hide hX; have HKK := hide hkk; have HKU := hide hku; have HGX := hide hgx
  clear hX hkk hku hgx
  by_cases hjn : j < n
  ·obtain ⟨row, hrow⟩ : ∃ x, x = exRow ex j ((baseA P).getD j []) := ⟨_, rfl⟩
   have hjb : j < (baseA P).length := by have := HNL.out; omega
   have hwl : (wideW (ex ++ [key]) (baseA P)).length = (wideW ex (baseA P)).length := by rw [wideW_len, wideW_len]
   have hma : ((wideW (ex ++ [key]) (baseA P)).take j ++ (wideW ex (baseA P)).drop j)[j]? = some row := by rw [mix_get hwl (by rw [wideW_len]; exact hjb), wideW_get _ _ hjb, hrow]
   obtain ⟨q9, hq9⟩ : ∃ q : Rat, q = if j = key.1 then key.2 else 0 := ⟨_, rfl⟩
   have HMA : Hid (((wideW (ex ++ [key]) (baseA P)).take j ++ (wideW ex (baseA P)).drop j).set j (row ++ [q9]) = (wideW (ex ++ [key]) (baseA P)).take (j+1) ++ (wideW ex (baseA P)).drop (j+1)) := hide (mix_set hwl (by rw [wideW_get _ _ hjb, exRow_snoc, hrow, hq9]))
   have HRL : Hid (row.length <= 1000) := hide (by
    rw [hrow, exRow_len, baseA_rows HP.out _ (by rw [List.getD_eq_getElem?_getD, List.getElem?_eq_getElem hjb]; exact List.getElem_mem hjb)]
    have := HP.out.n24; omega)
   have hhl : j < hs.length := by rw [hT.ht]; exact (List.getElem?_eq_some_iff.1 hma).1
   obtain ⟨Aj, nj, cj, hsj⟩ := hT.sl hs[j] (List.getElem_mem hhl)
   have hhj : hs[j]? = some (.slice Aj nj cj) := by rw [List.getElem?_eq_getElem hhl, hsj]
   have HHJ := hide hhj
   have HRU := hide (hT.h_ hhj hma)
   obtain ⟨gA, capA, sp, hvA, hgA, hrA, -, -⟩ := hT.block (by omega)
   injection hvA with hvA hn2 hc2
   subst hvA hc2
   have RA := hide hrA
   have HAJ : Hid ((hs ++ sp)[j]? = some (.slice Aj nj cj)) := hide (by rw [List.getElem?_append_left hhl]; exact hhj)
   have HNE : Hid (some gA ≠ (Value.slice Aj nj cj).ownBlock) := hide (fun e => by
    obtain ⟨cs, r⟩ := hT.ratBlock hhj e.symm
    unfold Row at r hrA
    rw [r] at hrA; injection hrA with hrA; injection hrA with _ hrA _; exact tRow_rat hrA.symm)
   have HNA : Hid (∀ r ∈ ([(g0, 26, [.slice A1 n1 c1, .slice A2 n2 c2, .slice A3 n3 c3, .slice A4 n4 c4, .slice A5 n5 c5]), (g2, 31, [.slice none 0 0, .slice none 0 0, .slice none 0 0]), (g3, 36, [.bool false, .slice none 0 0, .bool false, .slice none 0 0]), (gs, 31, [.slice (some ⟨gA, 0, none⟩) n c, .slice AB nB cB, .slice AC nC cC]), (gx, 36, [.bool e.a, .slice e.A e.n e.c, .bool e.a', .slice e.A' e.n' e.c'])] : List (Nat × TypeId × List Value)), r.2.1 ≠ 22 ∨ r.1 ≠ gA) := hide (by
    intro r hr
    simp only [List.mem_cons, List.not_mem_nil, or_false] at hr
    rcases hr with rfl | rfl | rfl | rfl | rfl <;> (left; dsimp only; decide))
   have HNR : Hid (∀ r ∈ ([(g0, 26, [.slice A1 n1 c1, .slice A2 n2 c2, .slice A3 n3 c3, .slice A4 n4 c4, .slice A5 n5 c5]), (g2, 31, [.slice none 0 0, .slice none 0 0, .slice none 0 0]), (g3, 36, [.bool false, .slice none 0 0, .bool false, .slice none 0 0]), (gs, 31, [.slice (some ⟨gA, 0, none⟩) n c, .slice AB nB cB, .slice AC nC cC]), (gx, 36, [.bool e.a, .slice e.A e.n e.c, .bool e.a', .slice e.A' e.n' e.c'])] : List (Nat × TypeId × List Value)), r.2.1 ≠ 36 ∨ some r.1 ≠ (Value.slice Aj nj cj).ownBlock) := hide (by
    intro r hr
    simp only [List.mem_cons, List.not_mem_nil, or_false] at hr
    rcases hr with rfl | rfl | rfl | rfl | rfl
    ·left; dsimp only; decide
    ·left; dsimp only; decide
    ·right; intro e; have h1 := (HRU.out.lt _ e.symm).1; dsimp only at h1; omega
    ·left; dsimp only; decide
    ·right; exact fun e => HGX.out _ (List.mem_append_right _ (List.mem_of_getElem? hhj)) e.symm)
   have RX : Hid (Row wr gx 36 [.bool e.a, .slice e.A e.n e.c, .bool e.a', .slice e.A' e.n' e.c']) := hide (HX.out _ (List.mem_cons_of_mem _ (List.mem_cons_of_mem _ (List.mem_cons_of_mem _ (List.mem_cons_of_mem _ (List.mem_cons_self ..))))))
   have hj0 : (0 : Int) <= (j : Int) := by omega
   have hj1 : (j : Int) < n := by omega
   have hj2 : ((j : Int)).toNat = j := by omega
   clear hT hrow hjb hwl hma hhl hsj hhj hrA hn2
   by_cases hjk : j = key.1
   ·have HQ9 : Hid (q9 = key.2) := hide (by rw [hq9, if_pos hjk])
    have hje : ((j : Int) == (key.1 : Int)) = true := by rw [hjk]; simp
    clear hq9 hjk
    gi_wp2_with (first
     | (refine ⟨trivial, ?_⟩; gi_at_call 62; refine (CallsIn.inRound l (callsIn_wide.2 (pzero_calls _))).mono ?_; rintro e w1 ⟨v1, rfl, o1, b1⟩; obtain ⟨s1, P1, q1, e1, P1', q1', e1', rfl, o1⟩ := o1.open_; have O1 := hide o1; clear o1; have HB1 := hide b1; clear b1; have rz := Row.new w1 36 [.bool s1, .slice P1 q1 e1, .bool false, .slice P1' q1' e1']; have rx := (RX.out.later HB1.out).alloc (Obj.cells #[Value.bool s1, Value.slice P1 q1 e1, Value.bool false, Value.slice P1' q1' e1'] 36); obtain ⟨z1, z2, z3, z4, z5, z6, z7, z8⟩ := row_cells4 rz; obtain ⟨y1, y2, y3, y4, y5, y6, y7, y8⟩ := row_cells4 rx)
     | (gi_at_call 62; refine (CallsIn.inRound l (callsIn_wide.2 (pzero_calls _))).mono ?_; rintro e w1 ⟨v1, rfl, o1, b1⟩; obtain ⟨s1, P1, q1, e1, P1', q1', e1', rfl, o1⟩ := o1.open_; have O1 := hide o1; clear o1; have HB1 := hide b1; clear b1; have rz := Row.new w1 36 [.bool s1, .slice P1 q1 e1, .bool false, .slice P1' q1' e1']; have rx := (RX.out.later HB1.out).alloc (Obj.cells #[Value.bool s1, Value.slice P1 q1 e1, Value.bool false, Value.slice P1' q1' e1'] 36); obtain ⟨z1, z2, z3, z4, z5, z6, z7, z8⟩ := row_cells4 rz; obtain ⟨y1, y2, y3, y4, y5, y6, y7, y8⟩ := row_cells4 rx))
    obtain ⟨w14, hw14⟩ : ∃ W, W = (w1.alloc (Obj.cells #[Value.bool e.a, Value.slice e.A e.n e.c, Value.bool e.a', Value.slice e.A' e.n' e.c'] 36)) := ⟨_, rfl⟩
    obtain ⟨g9, hg9⟩ : ∃ g, g = w1.heap.size := ⟨_, rfl⟩
    rw [<- hw14, <- hg9]
    have hs1 := HB1.out.size
    have bz : Later w1 w14 := by rw [hw14]; exact (Later.refl _).alloc _
    have HL14 : Hid (Later wr w14) := hide (HB1.out.trans bz)
    have R9f : Row w14 g9 36 [.bool e.a, .slice e.A e.n e.c, .bool e.a', .slice e.A' e.n' e.c'] := by rw [hw14, hg9]; exact Row.new _ _ _
    obtain ⟨e9, he9⟩ : ∃ x, x = e := ⟨_, rfl⟩
    have R9 : Hid (Row w14 g9 36 [.bool e9.a, .slice e9.A e9.n e9.c, .bool e9.a', .slice e9.A' e9.n' e9.c']) := hide (by rw [he9]; exact R9f)
    have HO9 : Hid (OwnR w14 0 (.agg #[.bool e9.a, .slice e9.A e9.n e9.c, .bool e9.a', .slice e9.A' e9.n' e9.c']) q9) := hide (by rw [he9, HQ9.out]; exact OwnR.later (show OwnR wr 0 (.agg #[.bool e.a, .slice e.A e.n e.c, .bool e.a', .slice e.A' e.n' e.c']) key.2 from HQ.out.keepU HKU.out) HL14.out)
    have hgw : wr.heap.size <= g9 := by rw [hg9]; exact hs1
    clear rz rx z1 z2 z3 z4 z5 z6 z7 z8 y1 y2 y3 y4 y5 y6 y7 y8 hw14 hg9 bz hs1 R9f he9
    have g9l : g9 < w14.heap.size := R9.out.lt
    have HN9 : Hid (some g9 ≠ (Value.slice Aj nj cj).ownBlock) := hide (fun e => by have h1 := (HRU.out.lt g9 e.symm).2; omega)
    have HT14 : Hid (∀ w', Later w14 w' -> w'.cell? ⟨gs, 0, none⟩ = some (.slice (some ⟨gA, 0, none⟩) n c) /\ w'.cell? ⟨gA, j, none⟩ = some (.slice Aj nj cj) /\ w'.cell? ⟨g9, 0, none⟩ = some (.bool e9.a) /\ w'.cell? ⟨g9, 1, none⟩ = some (.slice e9.A e9.n e9.c) /\ w'.cell? ⟨g9, 2, none⟩ = some (.bool e9.a') /\ w'.cell? ⟨g9, 3, none⟩ = some (.slice e9.A' e9.n' e9.c')) := hide fun w' hb => by
     have h1 := (HX.out.later (HL14.out.trans hb)) _ (List.mem_cons_of_mem _ (List.mem_cons_of_mem _ (List.mem_cons_of_mem _ (List.mem_cons_self ..))))
     have h2 := R9.out.later hb
     exact ⟨h1.cell (i := 0) rfl, (RA.out.later (HL14.out.trans hb)).cell HAJ.out, h2.cell (i := 0) rfl, h2.cell (i := 1) rfl, h2.cell (i := 2) rfl, h2.cell (i := 3) rfl⟩
    refine wpIn_region_round_N (fun w' => w'.cell? ⟨gs, 0, none⟩ = some (.slice (some ⟨gA, 0, none⟩) n c) /\ w'.cell? ⟨gA, j, none⟩ = some (.slice Aj nj cj) /\ w'.cell? ⟨g9, 0, none⟩ = some (.bool e9.a) /\ w'.cell? ⟨g9, 1, none⟩ = some (.slice e9.A e9.n e9.c) /\ w'.cell? ⟨g9, 2, none⟩ = some (.bool e9.a') /\ w'.cell? ⟨g9, 3, none⟩ = some (.slice e9.A' e9.n' e9.c')) [12] hmx (by kernel_rfl) (fun _ _ h => h) (HT14.out _ lt_) (fun hHeld => ?_)
    refine tkB 45 0 ?_
    refine tkB 46 1 ?_
    refine tkB 47 2 ?_
    refine tkB 48 3 ?_
    refine tkB 49 4 ?_
    refine tkB 50 5 ?_
    refine tkB 51 6 ?_
    refine tkB 52 7 ?_
    refine tkB 53 8 ?_
    refine wpAnyN_ready (rs := [9]) (by kernel_rfl) (by simp) ?_
    refine AllReadyN.held rfl (by rfl) (fun K hK => ?_) AllReadyN.nil
    go_simp
    refine hK.out _ _ ?_ (fun hHeld => ?_)
    ·exact HT14.out _ lt_
    clear hK K
    try simp only [Act.put, s1_, s2_, s3_]
    refine wpAnyN_ready (rs := [10]) (by kernel_rfl) (by simp) ?_
    refine AllReadyN.held rfl (by rfl) (fun K hK => ?_) AllReadyN.nil
    refine wp_append_rowu _ _ rfl rfl (HRU.out.later (HL14.out.trans lt_)) rfl (Row.later (Row.new w14 36 [.bool e9.a, .slice e9.A e9.n e9.c, .bool e9.a', .slice e9.A' e9.n' e9.c']) lt_) (OwnR.later HO9.out lt_) (by have := HRL.out; omega) (by have h1 := HL14.out.size; have h2 := HKK.out.size; show _ <= (w14.alloc _).heap.size; rw [World.size_alloc]; omega) ?_
    intro v10 w10 k1 k2 k3
    replace k2 : (w14.alloc (Obj.cells #[Value.bool e9.a, Value.slice e9.A e9.n e9.c, Value.bool e9.a', Value.slice e9.A' e9.n' e9.c'] 36)).drew.grownBy w10 (Value.slice Aj nj cj).ownBlock := k2
    replace k3 : v10.ownBlock = (Value.slice Aj nj cj).ownBlock ∨ v10.ownBlock = some (w14.alloc (Obj.cells #[Value.bool e9.a, Value.slice e9.A e9.n e9.c, Value.bool e9.a', Value.slice e9.A' e9.n' e9.c'] 36)).drew.heap.size := k3
    obtain ⟨A10, n10, c10, rfl⟩ := k1.form
    have lp : Later wr (w14.alloc (Obj.cells #[Value.bool e9.a, Value.slice e9.A e9.n e9.c, Value.bool e9.a', Value.slice e9.A' e9.n' e9.c'] 36)).drew := HL14.out.trans lt_
    have rA10 := (RA.out.later lp).grown k2 HNE.out
    have dA := rA10.cell (i := j) HAJ.out; have fA := rA10.frozen j
    have HS14 : Hid (w10.cell? ⟨gs, 0, none⟩ = some (.slice (some ⟨gA, 0, none⟩) n c) /\ w10.cell? ⟨gA, j, none⟩ = some (.slice Aj nj cj) /\ w10.cell? ⟨g9, 0, none⟩ = some (.bool e9.a) /\ w10.cell? ⟨g9, 1, none⟩ = some (.slice e9.A e9.n e9.c) /\ w10.cell? ⟨g9, 2, none⟩ = some (.bool e9.a') /\ w10.cell? ⟨g9, 3, none⟩ = some (.slice e9.A' e9.n' e9.c')) := hide ⟨((HX.out.later lp).grown k2 (RowU.later HRU.out lp).owns.choose_spec HNR.out _ (List.mem_cons_of_mem _ (List.mem_cons_of_mem _ (List.mem_cons_of_mem _ (List.mem_cons_self ..))))).cell (i := 0) rfl, dA, ((Row.later R9.out (show Later w14 (w14.alloc (Obj.cells #[Value.bool e9.a, Value.slice e9.A e9.n e9.c, Value.bool e9.a', Value.slice e9.A' e9.n' e9.c'] 36)).drew from lt_)).grown k2 HN9.out).cell (i := 0) rfl, ((Row.later R9.out (show Later w14 (w14.alloc (Obj.cells #[Value.bool e9.a, Value.slice e9.A e9.n e9.c, Value.bool e9.a', Value.slice e9.A' e9.n' e9.c'] 36)).drew from lt_)).grown k2 HN9.out).cell (i := 1) rfl, ((Row.later R9.out (show Later w14 (w14.alloc (Obj.cells #[Value.bool e9.a, Value.slice e9.A e9.n e9.c, Value.bool e9.a', Value.slice e9.A' e9.n' e9.c'] 36)).drew from lt_)).grown k2 HN9.out).cell (i := 2) rfl, ((Row.later R9.out (show Later w14 (w14.alloc (Obj.cells #[Value.bool e9.a, Value.slice e9.A e9.n e9.c, Value.bool e9.a', Value.slice e9.A' e9.n' e9.c'] 36)).drew from lt_)).grown k2 HN9.out).cell (i := 3) rfl⟩
    refine hK.out _ _ ?_ (fun hHeld => ?_)
    ·exact HS14.out
    clear hK K
    try simp only [Act.put, s1_, s2_, s3_]
    refine tkB 56 11 ?_
    refine wpAnyN_ready (rs := [12]) (by kernel_rfl) (by simp) ?_
    refine AllReadyN.free rfl (by rfl) (by kernel_rfl) (fun K hK => ?_) AllReadyN.nil
    go_simp
    refine hK.out _ _ ?_
    clear hK K
    try simp only [Act.put, s1_, s2_, s3_]
    refine wpAnyN_done (by kernel_rfl) ?_ _
    have oA : Only gA w10 (w10.setCell ⟨gA, j, none⟩ (.slice A10 n10 c10)) := Only.one gA w10 _ _
    have own1 := (RowU.later HRU.out lp).owns.choose_spec
    have hT1 := (HTX.out.later lp).put (i := j) HHJ.out k1 k2 (KeepU.grown k2 own1 tRat_u32) (k3.imp id fun e k hk => by rw [e] at hk; injection hk with hk; omega) ⟨_, _, _, rfl⟩
    have HT1 : Hid (TabX (w10.setCell ⟨gA, j, none⟩ (.slice A10 n10 c10)) lo (.slice (some ⟨gA, 0, none⟩) n c) (hs.set j (.slice A10 n10 c10)) ((wideW (ex ++ [key]) (baseA P)).take (j+1) ++ (wideW ex (baseA P)).drop (j+1)) [.slice AC nC cC, .slice AB nB cB] [P.cost ++ List.replicate ex.length 0, baseB P]) := hide (by
     rw [<- HMA.out]; exact hT1)
    have HX1 := hide (((HX.out.later lp).grown k2 own1 HNR.out).only oA rA10 HNA.out)
    have HKK1 := hide (HKK.out.trans ((KK.later (by have := HKK.out.size; omega) lp).trans ((KK.grown k2 own1 hB0 (by have := HKK.out.size; have := lp.size; omega) (by decide) (by decide)).trans (KK.set (i := j) (u := .slice A10 n10 c10) (by omega) rA10 (by decide) (by decide)))))
    have HKU1 := hide (HKU.out.trans ((KeepU.later lp).trans ((KeepU.grown k2 own1 tRat_u32).trans (KeepU.only oA rA10 tRow_u32))))
    have HGX1 : Hid (∀ u ∈ ([.slice AC nC cC, .slice AB nB cB] ++ hs.set j (.slice A10 n10 c10) : List Value), u.ownBlock ≠ some gx) := hide (by
     intro u hu
     rcases List.mem_append.1 hu with hu | hu
     ·exact HGX.out u (List.mem_append_left _ hu)
     ·rcases List.mem_or_eq_of_mem_set hu with hu | rfl
      ·exact HGX.out u (List.mem_append_right _ hu)
      ·rcases k3 with e | e
       ·rw [e]; exact HGX.out _ (List.mem_append_right _ (List.mem_of_getElem? HHJ.out))
       ·rw [e]; intro e2; injection e2 with e2
        have h1 := HGXL.out; have h2 := HKK.out.size; have h3 := lp.size
        omega)
    clear hHeld k1 k2 k3 lp rA10 dA fA oA own1 hT1 HS14
    gi_wp2
    go_roundw
    case rel => exact ⟨j + 1, by omega, by go_num, _, HT1.out, HX1.out, HKK1.out, HKU1.out, HGX1.out⟩
    case measure => simp [intOf]; omega
   ·have HQ9 : Hid (q9 = 0) := hide (by rw [hq9, if_neg hjk])
    have hje : ((j : Int) == (key.1 : Int)) = false := by rw [beq_eq_false_iff_ne]; omega
    clear hq9 hjk
    gi_wp2_with (first
     | (refine ⟨trivial, ?_⟩; gi_at_call 62; refine (CallsIn.inRound l (callsIn_wide.2 (pzero_calls _))).mono ?_; rintro e w1 ⟨v1, rfl, o1, b1⟩; obtain ⟨s1, P1, q1, e1, P1', q1', e1', rfl, o1⟩ := o1.open_; have O1 := hide o1; clear o1; have HB1 := hide b1; clear b1; have rz := Row.new w1 36 [.bool s1, .slice P1 q1 e1, .bool false, .slice P1' q1' e1']; have rx := (RX.out.later HB1.out).alloc (Obj.cells #[Value.bool s1, Value.slice P1 q1 e1, Value.bool false, Value.slice P1' q1' e1'] 36); obtain ⟨z1, z2, z3, z4, z5, z6, z7, z8⟩ := row_cells4 rz; obtain ⟨y1, y2, y3, y4, y5, y6, y7, y8⟩ := row_cells4 rx)
     | (gi_at_call 62; refine (CallsIn.inRound l (callsIn_wide.2 (pzero_calls _))).mono ?_; rintro e w1 ⟨v1, rfl, o1, b1⟩; obtain ⟨s1, P1, q1, e1, P1', q1', e1', rfl, o1⟩ := o1.open_; have O1 := hide o1; clear o1; have HB1 := hide b1; clear b1; have rz := Row.new w1 36 [.bool s1, .slice P1 q1 e1, .bool false, .slice P1' q1' e1']; have rx := (RX.out.later HB1.out).alloc (Obj.cells #[Value.bool s1, Value.slice P1 q1 e1, Value.bool false, Value.slice P1' q1' e1'] 36); obtain ⟨z1, z2, z3, z4, z5, z6, z7, z8⟩ := row_cells4 rz; obtain ⟨y1, y2, y3, y4, y5, y6, y7, y8⟩ := row_cells4 rx))
    obtain ⟨w14, hw14⟩ : ∃ W, W = (w1.alloc (Obj.cells #[Value.bool s1, Value.slice P1 q1 e1, Value.bool false, Value.slice P1' q1' e1'] 36)) := ⟨_, rfl⟩
    obtain ⟨g9, hg9⟩ : ∃ g, g = w1.heap.size := ⟨_, rfl⟩
    rw [<- hw14, <- hg9]
    have hs1 := HB1.out.size
    have bz : Later w1 w14 := by rw [hw14]; exact (Later.refl _).alloc _
    have HL14 : Hid (Later wr w14) := hide (HB1.out.trans bz)
    have R9f : Row w14 g9 36 [.bool s1, .slice P1 q1 e1, .bool false, .slice P1' q1' e1'] := by rw [hw14, hg9]; exact rz
    obtain ⟨e9, he9⟩ : ∃ x : RCells, x = ⟨s1, P1, q1, e1, false, P1', q1', e1'⟩ := ⟨_, rfl⟩
    have R9 : Hid (Row w14 g9 36 [.bool e9.a, .slice e9.A e9.n e9.c, .bool e9.a', .slice e9.A' e9.n' e9.c']) := hide (by rw [he9]; exact R9f)
    have HO9 : Hid (OwnR w14 0 (.agg #[.bool e9.a, .slice e9.A e9.n e9.c, .bool e9.a', .slice e9.A' e9.n' e9.c']) q9) := hide (by rw [he9, HQ9.out]; exact (OwnR.later O1.out bz).at0_)
    have hgw : wr.heap.size <= g9 := by rw [hg9]; exact hs1
    clear rz rx z1 z2 z3 z4 z5 z6 z7 z8 y1 y2 y3 y4 y5 y6 y7 y8 hw14 hg9 bz hs1 R9f he9
    have g9l : g9 < w14.heap.size := R9.out.lt
    have HN9 : Hid (some g9 ≠ (Value.slice Aj nj cj).ownBlock) := hide (fun e => by have h1 := (HRU.out.lt g9 e.symm).2; omega)
    have HT14 : Hid (∀ w', Later w14 w' -> w'.cell? ⟨gs, 0, none⟩ = some (.slice (some ⟨gA, 0, none⟩) n c) /\ w'.cell? ⟨gA, j, none⟩ = some (.slice Aj nj cj) /\ w'.cell? ⟨g9, 0, none⟩ = some (.bool e9.a) /\ w'.cell? ⟨g9, 1, none⟩ = some (.slice e9.A e9.n e9.c) /\ w'.cell? ⟨g9, 2, none⟩ = some (.bool e9.a') /\ w'.cell? ⟨g9, 3, none⟩ = some (.slice e9.A' e9.n' e9.c')) := hide fun w' hb => by
     have h1 := (HX.out.later (HL14.out.trans hb)) _ (List.mem_cons_of_mem _ (List.mem_cons_of_mem _ (List.mem_cons_of_mem _ (List.mem_cons_self ..))))
     have h2 := R9.out.later hb
     exact ⟨h1.cell (i := 0) rfl, (RA.out.later (HL14.out.trans hb)).cell HAJ.out, h2.cell (i := 0) rfl, h2.cell (i := 1) rfl, h2.cell (i := 2) rfl, h2.cell (i := 3) rfl⟩
    refine wpIn_region_round_N (fun w' => w'.cell? ⟨gs, 0, none⟩ = some (.slice (some ⟨gA, 0, none⟩) n c) /\ w'.cell? ⟨gA, j, none⟩ = some (.slice Aj nj cj) /\ w'.cell? ⟨g9, 0, none⟩ = some (.bool e9.a) /\ w'.cell? ⟨g9, 1, none⟩ = some (.slice e9.A e9.n e9.c) /\ w'.cell? ⟨g9, 2, none⟩ = some (.bool e9.a') /\ w'.cell? ⟨g9, 3, none⟩ = some (.slice e9.A' e9.n' e9.c')) [12] hmx (by kernel_rfl) (fun _ _ h => h) (HT14.out _ lt_) (fun hHeld => ?_)
    refine tkB 45 0 ?_
    refine tkB 46 1 ?_
    refine tkB 47 2 ?_
    refine tkB 48 3 ?_
    refine tkB 49 4 ?_
    refine tkB 50 5 ?_
    refine tkB 51 6 ?_
    refine tkB 52 7 ?_
    refine tkB 53 8 ?_
    refine wpAnyN_ready (rs := [9]) (by kernel_rfl) (by simp) ?_
    refine AllReadyN.held rfl (by rfl) (fun K hK => ?_) AllReadyN.nil
    go_simp
    refine hK.out _ _ ?_ (fun hHeld => ?_)
    ·exact HT14.out _ lt_
    clear hK K
    try simp only [Act.put, s1_, s2_, s3_]
    refine wpAnyN_ready (rs := [10]) (by kernel_rfl) (by simp) ?_
    refine AllReadyN.held rfl (by rfl) (fun K hK => ?_) AllReadyN.nil
    refine wp_append_rowu _ _ rfl rfl (HRU.out.later (HL14.out.trans lt_)) rfl (Row.later (Row.new w14 36 [.bool e9.a, .slice e9.A e9.n e9.c, .bool e9.a', .slice e9.A' e9.n' e9.c']) lt_) (OwnR.later HO9.out lt_) (by have := HRL.out; omega) (by have h1 := HL14.out.size; have h2 := HKK.out.size; show _ <= (w14.alloc _).heap.size; rw [World.size_alloc]; omega) ?_
    intro v10 w10 k1 k2 k3
    replace k2 : (w14.alloc (Obj.cells #[Value.bool e9.a, Value.slice e9.A e9.n e9.c, Value.bool e9.a', Value.slice e9.A' e9.n' e9.c'] 36)).drew.grownBy w10 (Value.slice Aj nj cj).ownBlock := k2
    replace k3 : v10.ownBlock = (Value.slice Aj nj cj).ownBlock ∨ v10.ownBlock = some (w14.alloc (Obj.cells #[Value.bool e9.a, Value.slice e9.A e9.n e9.c, Value.bool e9.a', Value.slice e9.A' e9.n' e9.c'] 36)).drew.heap.size := k3
    obtain ⟨A10, n10, c10, rfl⟩ := k1.form
    have lp : Later wr (w14.alloc (Obj.cells #[Value.bool e9.a, Value.slice e9.A e9.n e9.c, Value.bool e9.a', Value.slice e9.A' e9.n' e9.c'] 36)).drew := HL14.out.trans lt_
    have rA10 := (RA.out.later lp).grown k2 HNE.out
    have dA := rA10.cell (i := j) HAJ.out; have fA := rA10.frozen j
    have HS14 : Hid (w10.cell? ⟨gs, 0, none⟩ = some (.slice (some ⟨gA, 0, none⟩) n c) /\ w10.cell? ⟨gA, j, none⟩ = some (.slice Aj nj cj) /\ w10.cell? ⟨g9, 0, none⟩ = some (.bool e9.a) /\ w10.cell? ⟨g9, 1, none⟩ = some (.slice e9.A e9.n e9.c) /\ w10.cell? ⟨g9, 2, none⟩ = some (.bool e9.a') /\ w10.cell? ⟨g9, 3, none⟩ = some (.slice e9.A' e9.n' e9.c')) := hide ⟨((HX.out.later lp).grown k2 (RowU.later HRU.out lp).owns.choose_spec HNR.out _ (List.mem_cons_of_mem _ (List.mem_cons_of_mem _ (List.mem_cons_of_mem _ (List.mem_cons_self ..))))).cell (i := 0) rfl, dA, ((Row.later R9.out (show Later w14 (w14.alloc (Obj.cells #[Value.bool e9.a, Value.slice e9.A e9.n e9.c, Value.bool e9.a', Value.slice e9.A' e9.n' e9.c'] 36)).drew from lt_)).grown k2 HN9.out).cell (i := 0) rfl, ((Row.later R9.out (show Later w14 (w14.alloc (Obj.cells #[Value.bool e9.a, Value.slice e9.A e9.n e9.c, Value.bool e9.a', Value.slice e9.A' e9.n' e9.c'] 36)).drew from lt_)).grown k2 HN9.out).cell (i := 1) rfl, ((Row.later R9.out (show Later w14 (w14.alloc (Obj.cells #[Value.bool e9.a, Value.slice e9.A e9.n e9.c, Value.bool e9.a', Value.slice e9.A' e9.n' e9.c'] 36)).drew from lt_)).grown k2 HN9.out).cell (i := 2) rfl, ((Row.later R9.out (show Later w14 (w14.alloc (Obj.cells #[Value.bool e9.a, Value.slice e9.A e9.n e9.c, Value.bool e9.a', Value.slice e9.A' e9.n' e9.c'] 36)).drew from lt_)).grown k2 HN9.out).cell (i := 3) rfl⟩
    refine hK.out _ _ ?_ (fun hHeld => ?_)
    ·exact HS14.out
    clear hK K
    try simp only [Act.put, s1_, s2_, s3_]
    refine tkB 56 11 ?_
    refine wpAnyN_ready (rs := [12]) (by kernel_rfl) (by simp) ?_
    refine AllReadyN.free rfl (by rfl) (by kernel_rfl) (fun K hK => ?_) AllReadyN.nil
    go_simp
    refine hK.out _ _ ?_
    clear hK K
    try simp only [Act.put, s1_, s2_, s3_]
    refine wpAnyN_done (by kernel_rfl) ?_ _
    have oA : Only gA w10 (w10.setCell ⟨gA, j, none⟩ (.slice A10 n10 c10)) := Only.one gA w10 _ _
    have own1 := (RowU.later HRU.out lp).owns.choose_spec
    have hT1 := (HTX.out.later lp).put (i := j) HHJ.out k1 k2 (KeepU.grown k2 own1 tRat_u32) (k3.imp id fun e k hk => by rw [e] at hk; injection hk with hk; omega) ⟨_, _, _, rfl⟩
    have HT1 : Hid (TabX (w10.setCell ⟨gA, j, none⟩ (.slice A10 n10 c10)) lo (.slice (some ⟨gA, 0, none⟩) n c) (hs.set j (.slice A10 n10 c10)) ((wideW (ex ++ [key]) (baseA P)).take (j+1) ++ (wideW ex (baseA P)).drop (j+1)) [.slice AC nC cC, .slice AB nB cB] [P.cost ++ List.replicate ex.length 0, baseB P]) := hide (by
     rw [<- HMA.out]; exact hT1)
    have HX1 := hide (((HX.out.later lp).grown k2 own1 HNR.out).only oA rA10 HNA.out)
    have HKK1 := hide (HKK.out.trans ((KK.later (by have := HKK.out.size; omega) lp).trans ((KK.grown k2 own1 hB0 (by have := HKK.out.size; have := lp.size; omega) (by decide) (by decide)).trans (KK.set (i := j) (u := .slice A10 n10 c10) (by omega) rA10 (by decide) (by decide)))))
    have HKU1 := hide (HKU.out.trans ((KeepU.later lp).trans ((KeepU.grown k2 own1 tRat_u32).trans (KeepU.only oA rA10 tRow_u32))))
    have HGX1 : Hid (∀ u ∈ ([.slice AC nC cC, .slice AB nB cB] ++ hs.set j (.slice A10 n10 c10) : List Value), u.ownBlock ≠ some gx) := hide (by
     intro u hu
     rcases List.mem_append.1 hu with hu | hu
     ·exact HGX.out u (List.mem_append_left _ hu)
     ·rcases List.mem_or_eq_of_mem_set hu with hu | rfl
      ·exact HGX.out u (List.mem_append_right _ hu)
      ·rcases k3 with e | e
       ·rw [e]; exact HGX.out _ (List.mem_append_right _ (List.mem_of_getElem? HHJ.out))
       ·rw [e]; intro e2; injection e2 with e2
        have h1 := HGXL.out; have h2 := HKK.out.size; have h3 := lp.size
        omega)
    clear hHeld k1 k2 k3 lp rA10 dA fA oA own1 hT1 HS14
    gi_wp2
    go_roundw
    case rel => exact ⟨j + 1, by omega, by go_num, _, HT1.out, HX1.out, HKK1.out, HKU1.out, HGX1.out⟩
    case measure => simp [intOf]; omega
  ·have HF : Hid (TabX wr lo (.slice A n c) hs (wideW (ex ++ [key]) (baseA P)) [.slice AC nC cC, .slice AB nB cB] [P.cost ++ List.replicate ex.length 0, baseB P]) := hide (by
    have h1 := HTX.out
    have e1 : (wideW (ex ++ [key]) (baseA P)).take j ++ (wideW ex (baseA P)).drop j = wideW (ex ++ [key]) (baseA P) := by
     have hjn2 : j = (wideW ex (baseA P)).length := by rw [wideW_len]; have := HNL.out; omega
     rw [hjn2]; exact mix_all (by rw [wideW_len, wideW_len])
    rw [e1] at h1; exact h1)
   have hj1 : ¬ (j : Int) < n := by omega
   have HCL : Hid ((P.cost ++ List.replicate ex.length (0 : Rat)).length <= 1000) := hide (by rw [List.length_append, List.length_replicate]; have := HP.out.n24; omega)
   have HNC : Hid (∀ r ∈ ([(g0, 26, [.slice A1 n1 c1, .slice A2 n2 c2, .slice A3 n3 c3, .slice A4 n4 c4, .slice A5 n5 c5]), (g2, 31, [.slice none 0 0, .slice none 0 0, .slice none 0 0]), (g3, 36, [.bool false, .slice none 0 0, .bool false, .slice none 0 0]), (gs, 31, [.slice A n c, .slice AB nB cB, .slice AC nC cC]), (gx, 36, [.bool e.a, .slice e.A e.n e.c, .bool e.a', .slice e.A' e.n' e.c'])] : List (Nat × TypeId × List Value)), r.2.1 ≠ 36 ∨ some r.1 ≠ (Value.slice AC nC cC).ownBlock) := hide (by
    intro r hr
    simp only [List.mem_cons, List.not_mem_nil, or_false] at hr
    rcases hr with rfl | rfl | rfl | rfl | rfl
    ·left; dsimp only; decide
    ·left; dsimp only; decide
    ·right; intro e; have h1 := ((HF.out.x (i := 0) rfl rfl).lt _ e.symm).1; dsimp only at h1; omega
    ·left; dsimp only; decide
    ·right; exact fun e => HGX.out _ (List.mem_append_left _ (List.mem_cons_self ..)) e.symm)
   have HT16 : Hid (∀ w', Later wr w' -> w'.cell? ⟨gs, 2, none⟩ = some (.slice AC nC cC)) := hide fun w' hb => by
    have h1 := (HX.out.later hb) _ (List.mem_cons_of_mem _ (List.mem_cons_of_mem _ (List.mem_cons_of_mem _ (List.mem_cons_self ..))))
    exact h1.cell (i := 2) rfl
   clear hT HTX
   gi_wp2
   refine wpIn_region_round_N (fun w' => w'.cell? ⟨gs, 2, none⟩ = some (.slice AC nC cC)) [6] hmx (by kernel_rfl) (fun _ _ h => h) (HT16.out _ lt_) (fun hHeld => ?_)
   refine tkB 58 0 ?_
   refine tkB 59 1 ?_
   refine wpAnyN_ready (rs := [2]) (by kernel_rfl) (by simp) ?_
   refine AllReadyN.held rfl (by rfl) (fun K hK => ?_) AllReadyN.nil
   go_simp
   refine (pzero_calls _).mono ?_
   rintro e w16 ⟨v16, rfl, o16, b16⟩
   obtain ⟨s16, P16, q16, e16, P16', q16', e16', rfl, o16⟩ := o16.open_; have O16 := hide o16; clear o16
   have l16 : Later wr w16 := Later.trans lt_ b16
   clear b16
   refine hK.out _ _ ?_ (fun hHeld => ?_)
   ·exact HT16.out _ lt_
   clear hK K
   try simp only [Act.put, s1_, s2_, s3_]
   refine wpAnyN_ready (rs := [3]) (by kernel_rfl) (by simp) ?_
   refine AllReadyN.held rfl (by rfl) (fun K hK => ?_) AllReadyN.nil
   go_simp
   refine hK.out _ _ ?_ (fun hHeld => ?_)
   ·exact HT16.out _ lt_
   clear hK K
   try simp only [Act.put, s1_, s2_, s3_]
   refine wpAnyN_ready (rs := [4]) (by kernel_rfl) (by simp) ?_
   refine AllReadyN.held rfl (by rfl) (fun K hK => ?_) AllReadyN.nil
   refine wp_append_loose _ _ rfl 0 rfl (HF.out.later (Later.trans l16 lt_)) rfl rfl rfl (Row.later (Row.new w16 36 [.bool s16, .slice P16 q16 e16, .bool false, .slice P16' q16' e16']) lt_) (OwnR.later O16.out lt_) (by have := HCL.out; omega) (by have h1 := l16.size; have h2 := HKK.out.size; show _ <= (w16.alloc _).heap.size; rw [World.size_alloc]; omega) ?_
   intro v17 w17 m1 m2 m3
   replace m2 : (w16.alloc (Obj.cells #[Value.bool s16, Value.slice P16 q16 e16, Value.bool false, Value.slice P16' q16' e16'] 36)).grownBy w17 (Value.slice AC nC cC).ownBlock := m2
   obtain ⟨A17, n17, c17, rfl⟩ := (m1.x (i := 0) rfl rfl).form
   have lq : Later wr (w16.alloc (Obj.cells #[Value.bool s16, Value.slice P16 q16 e16, Value.bool false, Value.slice P16' q16' e16'] 36)) := l16.trans lt_
   have own1 := (RowU.later (HF.out.x (i := 0) rfl rfl) lq).owns.choose_spec
   have HX17 := hide ((HX.out.later lq).grown m2 own1 HNC.out)
   have rs17 : Row w17 gs 31 [.slice A n c, .slice AB nB cB, .slice AC nC cC] := HX17.out _ (List.mem_cons_of_mem _ (List.mem_cons_of_mem _ (List.mem_cons_of_mem _ (List.mem_cons_self ..))))
   have dS := rs17.cell (i := 2) rfl; have fS := rs17.frozen 2
   have HS16 : Hid (w17.cell? ⟨gs, 2, none⟩ = some (.slice AC nC cC)) := hide dS
   refine hK.out _ _ ?_ (fun hHeld => ?_)
   ·exact HS16.out
   clear hK K
   try simp only [Act.put, s1_, s2_, s3_]
   refine tkB 63 5 ?_
   refine wpAnyN_ready (rs := [6]) (by kernel_rfl) (by simp) ?_
   refine AllReadyN.free rfl (by rfl) (by kernel_rfl) (fun K hK => ?_) AllReadyN.nil
   go_simp
   refine hK.out _ _ ?_
   clear hK K
   try simp only [Act.put, s1_, s2_, s3_]
   refine wpAnyN_done (by kernel_rfl) ?_ _
   have oS : Only gs w17 (w17.setCell ⟨gs, 2, none⟩ (.slice A17 n17 c17)) := Only.one gs w17 _ _
   have HT1 : Hid (TabX (w17.setCell ⟨gs, 2, none⟩ (.slice A17 n17 c17)) lo (.slice A n c) hs (wideW (ex ++ [key]) (baseA P)) [.slice A17 n17 c17, .slice AB nB cB] [P.cost ++ List.replicate (ex.length + 1) 0, baseB P]) := hide (by
    have h1 := m1.only oS rs17 (by decide) (by decide) (by decide)
    have e1 : P.cost ++ List.replicate (ex.length + 1) (0 : Rat) = (P.cost ++ List.replicate ex.length 0) ++ [0] := by rw [List.replicate_succ', List.append_assoc]
    rw [e1]; exact h1)
   have HKK1 := hide (HKK.out.trans ((KK.later (by have := HKK.out.size; omega) lq).trans ((KK.grown m2 own1 hB0 (by have := HKK.out.size; have := lq.size; omega) (by decide) (by decide)).trans (KK.set (i := 2) (u := .slice A17 n17 c17) hB0s rs17 (by decide) (by decide)))))
   have rs18 := rs17.set_ 2 (.slice A17 n17 c17)
   have HX1 : Hid (Boxes (w17.setCell ⟨gs, 2, none⟩ (.slice A17 n17 c17)) [(g0, 26, [.slice A1 n1 c1, .slice A2 n2 c2, .slice A3 n3 c3, .slice A4 n4 c4, .slice A5 n5 c5]), (g2, 31, [.slice none 0 0, .slice none 0 0, .slice none 0 0]), (g3, 36, [.bool false, .slice none 0 0, .bool false, .slice none 0 0]), (gs, 31, [.slice A n c, .slice AB nB cB, .slice A17 n17 c17])]) := hide (by
    intro r hr
    have q1 := HX17.out
    simp only [List.mem_cons, List.not_mem_nil, or_false] at hr
    rcases hr with rfl | rfl | rfl | rfl
    ·exact (q1 _ (List.mem_cons_self ..)).only oS (fun e => by
      have h1 := q1 _ (List.mem_cons_self ..)
      dsimp only at e h1
      rw [e] at h1
      unfold Row at h1 rs17
      rw [h1] at rs17; injection rs17 with rs17; injection rs17 with _ rs17 _; revert rs17; decide)
    ·exact (q1 _ (List.mem_cons_of_mem _ (List.mem_cons_self ..))).only oS hg2s
    ·exact (q1 _ (List.mem_cons_of_mem _ (List.mem_cons_of_mem _ (List.mem_cons_self ..)))).only oS (fun e => by
      have h1 := q1 _ (List.mem_cons_of_mem _ (List.mem_cons_of_mem _ (List.mem_cons_self ..)))
      dsimp only at e h1
      rw [e] at h1
      unfold Row at h1 rs17
      rw [h1] at rs17; injection rs17 with rs17; injection rs17 with _ rs17 _; revert rs17; decide)
    ·exact rs18)
   clear hHeld m1 m2 m3 lq own1 rs17 dS fS HS16 oS rs18
   gi_wp2
   exact HR.out _ _ _ _ _ _ HT1.out HX1.out HKK1.out
end Go.Proofs.YtfokplidiboabaaGreat
namespace Go.Proofs.YtfokplidiboabaaGreat
open Go.RowKit Go.Shelf
attribute [local go_sem] Oper.semAt_some
structure StdV (w : World) (P : PLp) (vA vB vC vr : Value) : Prop where
 a : Tab EOwn w vA (stdA P)
 b : Rats EOwn w vB (stdB P)
 c : Rats EOwn w vC (stdC P)
 r : OwnR w 0 vr (restV P)
theorem StdV.later {w w' : World} {P : PLp} {vA vB vC vr : Value} (h : StdV w P vA vB vC vr) (hb : Later w w') : StdV w' P vA vB vC vr := ⟨h.a.later EOwn.later hb, h.b.later EOwn.later hb, h.c.later EOwn.later hb, OwnR.later h.r hb⟩
def PStd (w : World) (P : PLp) (e : Ending) (w' : World) : Prop := ∃ vA vB vC vr, e = .returned (.tuple #[.agg #[vA, vB, vC], vr, .int .i64 (if lpB P then 0 else 1)]) /\
 (lpB P = true -> StdV w' P vA vB vC vr) /\ (lpB P = false -> vA = .slice none 0 0 /\ vB = .slice none 0 0 /\ vC = .slice none 0 0 /\ OwnR w' 0 vr 0) /\ Later w w'
theorem results_std {fn : Func} {t u v : Tmp} {tmps : Array Value} {W : World} {b b' : Nat} {x y z a1 a2 a3 a4 : Value} {n : Int} (h : fn.results = #[.cell t 31, .cell u 36, .tmp v]) (hp : tmps[t]?.getD undef = .pointer (some ⟨b, 0, none⟩)) (hq : tmps[u]?.getD undef = .pointer (some ⟨b', 0, none⟩)) (hu : tmps[v]?.getD undef = .int .i64 n) (hr : Row W b 31 [x, y, z]) (hr2 : Row W b' 36 [a1, a2, a3, a4]) :
 (results fn tmps).run Tryz.prog W = .ok (.tuple #[.agg #[x, y, z], .agg #[a1, a2, a3, a4], .int .i64 n]) W := by
 have c0 := hr.cell (i := 0) rfl; have c1 := hr.cell (i := 1) rfl; have c2 := hr.cell (i := 2) rfl
 obtain ⟨k0, k1, k2, k3, -⟩ := row_cells4 hr2
 simp [results, h, hp, hq, hu, go_sem, c0, c1, c2, k0, k1, k2, k3]
theorem KeepU.own_ {X Y : World} {row : Option Nat} (hg : X.grownBy Y row) (hr : ∀ r, row = some r -> ∃ o : Obj, X.heap[r]? = some o /\ o.isCells = false) : KeepU X Y := ⟨hg.size, fun b hb => hg.block b hb.lt fun e => by
 obtain ⟨o, ho, hc⟩ := hr b e.symm
 obtain ⟨cs, z, h⟩ := hb
 rw [h] at ho; injection ho with ho; subst ho; cases hc⟩
set_option maxHeartbeats 16000000 in
theorem pstd_in (w : World) (A1 A2 A3 A4 A5 : Option Addr) (n1 n2 n3 n4 n5 c1 c2 c3 c4 c5 : Nat) (k : Nat) (P : PLp) (h : LpIn w (.slice A1 n1 c1) (.slice A2 n2 c2) (.slice A3 n3 c3) (.slice A4 n4 c4) (.slice A5 n5 c5) k P) :
 CallsIn Fence.wide 10 Tryz.prog 17 #[.agg #[.slice A1 n1 c1, .slice A2 n2 c2, .slice A3 n3 c3, .slice A4 n4 c4, .slice A5 n5 c5]] w (PStd w P) := by
 have H := hide h
 have hc1 := h.cost; have hr1 := h.rows; have hl1 := h.lo; have hh1 := h.hi; have ho1 := h.opn
 have L1 := hide hc1.len_; have L2 := hide hr1.len_; have L3 := hide hl1.len_; have L4 := hide hh1.len_; have L5 := hide ho1.len_
 have hn1 : n1 <= 1000 := by have := h.cl; have := L1.out; omega
 have hn2 : n2 <= 1000 := by have := h.rl; have := L2.out; omega
 have hn3 : n3 <= 1000 := by have := h.ll; have := L3.out; omega
 have hn4 : n4 <= 1000 := by have := h.hl; have := L4.out; omega
 have hn5 : n5 <= 1000 := by have := h.ol; have := L5.out; omega
 have hkk := h.kk
 clear h hc1 hr1 hl1 hh1 ho1
 obtain ⟨u, hu⟩ : ∃ u, lpB P = u := ⟨_, rfl⟩
 have HU := hide hu
 clear hu
 obtain ⟨W0, hW0⟩ : ∃ W0, W0 = (((w.alloc (Obj.cells #[Value.slice A1 n1 c1, Value.slice A2 n2 c2, Value.slice A3 n3 c3, Value.slice A4 n4 c4, Value.slice A5 n5 c5] 26)).alloc (Obj.cells #[Value.slice none 0 0, Value.slice none 0 0, Value.slice none 0 0] 31)).alloc (Obj.cells #[Value.bool false, Value.slice none 0 0, Value.bool false, Value.slice none 0 0] 36)) := ⟨_, rfl⟩
 obtain ⟨hb0, r0, r1, r2, hsz0⟩ := boxes3 w [.slice A1 n1 c1, .slice A2 n2 c2, .slice A3 n3 c3, .slice A4 n4 c4, .slice A5 n5 c5] [.slice none 0 0, .slice none 0 0, .slice none 0 0] [.bool false, .slice none 0 0, .bool false, .slice none 0 0] 26 31 36 hW0
 have B0 := hide hb0; have HW0 := hide hW0; have HSZ0 := hide hsz0
 have R0 := hide r0; have R1 := hide r1; have R2 := hide r2
 clear hb0 hW0 hsz0 r0 r1 r2
 refine callsIn_of_wp_marks Tryz.func17 rfl trivial (wpIn_wide.2 ?_) rfl
 simp only [Tryz.ntmps17, List.size_toArray, List.length_cons, List.length_nil, Nat.reduceAdd, Nat.reduceSub, Array.replicate_succ, Array.replicate_zero, List.push_toArray, List.append_toArray, List.nil_append, List.cons_append]
 go_upto_region 1 with fail
 rw [<- HW0.out]
 have r_d := R0.out.later (Later.refl W0)
 have d0 := r_d.cell (i := 0) rfl; have d1 := r_d.cell (i := 1) rfl; have d2 := r_d.cell (i := 2) rfl; have d3 := r_d.cell (i := 3) rfl; have d4 := r_d.cell (i := 4) rfl
 clear r_d
 go_wp2_with fail
 ((with_reducible refine (pmay_calls _ _ _ _ _ _ _ _ _ _ _ _ _ _ _ _ k P (H.out.later B0.out)).mono ?_); rintro e w1 ⟨rfl, b1⟩)
 rw [HU.out]
 have HL1 := hide b1
 clear b1 d0 d1 d2 d3 d4
 have r_d := R0.out.later HL1.out
 have d0 := r_d.cell (i := 0) rfl; have d1 := r_d.cell (i := 1) rfl; have d2 := r_d.cell (i := 2) rfl; have d3 := r_d.cell (i := 3) rfl; have d4 := r_d.cell (i := 4) rfl
 clear r_d
 cases u with
 | false =>
   go_wp2_with ((with_reducible refine (pzero_calls _).mono ?_); rintro e w2 ⟨v2, rfl, o2, b2⟩; obtain ⟨s2, P2, q2, e2, P2', q2', e2', rfl, o2⟩ := o2.open_; have O2 := hide o2; clear o2; have r1 := R1.out.later (HL1.out.trans b2); have r2 := R2.out.later (HL1.out.trans b2); have k0 := r1.cell (i := 0) rfl; have k1 := r1.cell (i := 1) rfl; have k2 := r1.cell (i := 2) rfl; have f0 := r1.frozen 0; have f1 := r1.frozen 1; have f2 := r1.frozen 2; obtain ⟨x1, x2, x3, x4, x5, x6, x7, x8⟩ := row_cells4 r2)
   have o2 : Only (w.heap.size + 1) w2 (((w2.setCell ⟨w.heap.size + 1, 0, none⟩ (.slice none 0 0)).setCell ⟨w.heap.size + 1, 1, none⟩ (.slice none 0 0)).setCell ⟨w.heap.size + 1, 2, none⟩ (.slice none 0 0)) := ((Only.one _ w2 _ _).set _ _).set _ _
   have r2b := r2.only o2 (by omega)
   have o3 : Only (w.heap.size + 1 + 1) (((w2.setCell ⟨w.heap.size + 1, 0, none⟩ (.slice none 0 0)).setCell ⟨w.heap.size + 1, 1, none⟩ (.slice none 0 0)).setCell ⟨w.heap.size + 1, 2, none⟩ (.slice none 0 0)) (((((((w2.setCell ⟨w.heap.size + 1, 0, none⟩ (.slice none 0 0)).setCell ⟨w.heap.size + 1, 1, none⟩ (.slice none 0 0)).setCell ⟨w.heap.size + 1, 2, none⟩ (.slice none 0 0)).setCell ⟨w.heap.size + 1 + 1, 0, none⟩ (.bool s2)).setCell ⟨w.heap.size + 1 + 1, 1, none⟩ (.slice P2 q2 e2)).setCell ⟨w.heap.size + 1 + 1, 2, none⟩ (.bool false)).setCell ⟨w.heap.size + 1 + 1, 3, none⟩ (.slice P2' q2' e2')) := Only.four _ _ _ _ _ _
   have F1 : Row (((((((w2.setCell ⟨w.heap.size + 1, 0, none⟩ (.slice none 0 0)).setCell ⟨w.heap.size + 1, 1, none⟩ (.slice none 0 0)).setCell ⟨w.heap.size + 1, 2, none⟩ (.slice none 0 0)).setCell ⟨w.heap.size + 1 + 1, 0, none⟩ (.bool s2)).setCell ⟨w.heap.size + 1 + 1, 1, none⟩ (.slice P2 q2 e2)).setCell ⟨w.heap.size + 1 + 1, 2, none⟩ (.bool false)).setCell ⟨w.heap.size + 1 + 1, 3, none⟩ (.slice P2' q2' e2')) (w.heap.size + 1) 31 [.slice none 0 0, .slice none 0 0, .slice none 0 0] := (((r1.set_ 0 (.slice none 0 0)).set_ 1 (.slice none 0 0)).set_ 2 (.slice none 0 0)).only o3 (by omega)
   have F2 : Row (((((((w2.setCell ⟨w.heap.size + 1, 0, none⟩ (.slice none 0 0)).setCell ⟨w.heap.size + 1, 1, none⟩ (.slice none 0 0)).setCell ⟨w.heap.size + 1, 2, none⟩ (.slice none 0 0)).setCell ⟨w.heap.size + 1 + 1, 0, none⟩ (.bool s2)).setCell ⟨w.heap.size + 1 + 1, 1, none⟩ (.slice P2 q2 e2)).setCell ⟨w.heap.size + 1 + 1, 2, none⟩ (.bool false)).setCell ⟨w.heap.size + 1 + 1, 3, none⟩ (.slice P2' q2' e2')) (w.heap.size + 1 + 1) 36 [.bool s2, .slice P2 q2 e2, .bool false, .slice P2' q2' e2'] := r2b.four _ _ _ _
   have F3 : OwnR (((((((w2.setCell ⟨w.heap.size + 1, 0, none⟩ (.slice none 0 0)).setCell ⟨w.heap.size + 1, 1, none⟩ (.slice none 0 0)).setCell ⟨w.heap.size + 1, 2, none⟩ (.slice none 0 0)).setCell ⟨w.heap.size + 1 + 1, 0, none⟩ (.bool s2)).setCell ⟨w.heap.size + 1 + 1, 1, none⟩ (.slice P2 q2 e2)).setCell ⟨w.heap.size + 1 + 1, 2, none⟩ (.bool false)).setCell ⟨w.heap.size + 1 + 1, 3, none⟩ (.slice P2' q2' e2')) 0 (.agg #[.bool s2, .slice P2 q2 e2, .bool false, .slice P2' q2' e2']) 0 := OwnR.keepU O2.out ((KeepU.only o2 r1 (by decide)).trans (KeepU.only o3 r2b (by decide)))
   have F4 := ((B0.out.trans (HL1.out.trans b2)).only o2 (by omega)).only o3 (by omega)
   refine ⟨_, results_std rfl rfl rfl rfl F1 F2, ?_⟩
   exact ⟨_, _, _, _, by rw [HU.out]; rfl, fun h => (by rw [HU.out] at h; cases h), fun _ => ⟨rfl, rfl, rfl, F3⟩, F4⟩
 | true =>
   have HP := hide (lpB_iff.1 HU.out)
   go_upto_region 4 with ((with_reducible refine (pplain_calls _ _ P.cost k (Rats.later ERaw.later H.out.cost (B0.out.trans HL1.out)) (by have := H.out.cl; omega) (by omega)).mono ?_); rintro e w3 ⟨v3, rfl, r3, b3⟩; obtain ⟨Ac, nc, cc, rfl⟩ := r3.form)
   clear d0 d1 d2 d3 d4
   obtain ⟨ws, hws⟩ : ∃ ws, ws = w3.alloc (Obj.cells #[Value.slice none 0 0, Value.slice none 0 0, Value.slice Ac nc cc] 31) := ⟨_, rfl⟩
   obtain ⟨gs, hgs_⟩ : ∃ gs, gs = w3.heap.size := ⟨_, rfl⟩
   have bws : Later w3 ws := by rw [hws]; exact (Later.refl _).alloc _
   have rgs : Row ws gs 31 [.slice none 0 0, .slice none 0 0, .slice Ac nc cc] := by rw [hws, hgs_]; exact Row.new _ _ _
   rw [<- hws, <- hgs_]
   have HLs := hide (HL1.out.trans (b3.trans bws)); have RC := hide (RowU.later r3 bws); have RS := hide rgs
   have hgs : w1.heap.size <= gs := by rw [hgs_]; exact b3.size
   have hlc := r3.lt
   have HLC : Hid (∀ k, (Value.slice Ac nc cc).ownBlock = some k -> w1.heap.size <= k /\ k < gs) := hide (fun k hk => by rw [hgs_]; exact hlc k hk)
   have hgsz : gs < ws.heap.size := rgs.lt
   clear hws hgs_ bws rgs r3 b3 hlc
   have r_d := R0.out.later HLs.out
   have d0 := r_d.cell (i := 0) rfl; have d1 := r_d.cell (i := 1) rfl; have d2 := r_d.cell (i := 2) rfl; have d3 := r_d.cell (i := 3) rfl; have d4 := r_d.cell (i := 4) rfl
   clear r_d
   go_upto_region 5 with (((with_reducible refine (pbase_calls _ _ _ _ _ _ _ _ _ _ _ _ _ _ _ _ k P (H.out.later (B0.out.trans HLs.out)) HP.out).mono ?_); rintro e w4 ⟨Aq, nq, cq, vb4, hs4, rfl, t4, b4⟩; obtain ⟨Ab, nb, cb, rfl⟩ := (t4.x (i := 0) rfl rfl).form; have rs4 := RS.out.later b4; have k0 := rs4.cell (i := 0) rfl; have k1 := rs4.cell (i := 1) rfl; have k2 := rs4.cell (i := 2) rfl; have f0 := rs4.frozen 0; have f1 := rs4.frozen 1; have f2 := rs4.frozen 2))
   obtain ⟨w5, hw5⟩ : ∃ W, W = (w4.setCell ⟨gs, 0, none⟩ (.slice Aq nq cq)).setCell ⟨gs, 1, none⟩ (.slice Ab nb cb) := ⟨_, rfl⟩
   rw [<- hw5]
   have oS : Only gs w4 w5 := by rw [hw5]; exact (Only.one gs w4 _ _).set _ _
   have rs5 : Row w5 gs 31 [.slice Aq nq cq, .slice Ab nb cb, .slice Ac nc cc] := by rw [hw5]; exact (rs4.set_ 0 (.slice Aq nq cq)).set_ 1 (.slice Ab nb cb)
   have hT5 := ((t4.older (lo := w1.heap.size) (RC.out.weaken (Nat.le_refl _) |>.later b4) (by omega) (fun k hk => by have := (HLC.out k hk).2; omega)).only oS rs4 (by decide) (by decide) (by decide))
   have HT5 := hide hT5
   have HL5 := hide ((HLs.out.trans b4).only oS (by have := HL1.out.size; have := HSZ0.out; omega))
   have hw1s := HL1.out.size
   have hsz0 := HSZ0.out
   have HX5 : Hid (Boxes w5 [(w.heap.size, 26, [.slice A1 n1 c1, .slice A2 n2 c2, .slice A3 n3 c3, .slice A4 n4 c4, .slice A5 n5 c5]), (w.heap.size + 1, 31, [.slice none 0 0, .slice none 0 0, .slice none 0 0]), (w.heap.size + 2, 36, [.bool false, .slice none 0 0, .bool false, .slice none 0 0]), (gs, 31, [.slice Aq nq cq, .slice Ab nb cb, .slice Ac nc cc])]) := hide (by
    have hl := HLs.out.trans b4
    intro r hr
    simp only [List.mem_cons, List.not_mem_nil, or_false] at hr
    rcases hr with rfl | rfl | rfl | rfl
    ·exact (R0.out.later hl).only oS (by omega)
    ·exact (R1.out.later hl).only oS (by omega)
    ·exact (R2.out.later hl).only oS (by omega)
    ·exact rs5)
   have hgs5 : gs < w5.heap.size := rs5.lt
   clear hT5 oS rs4 rs5 k0 k1 k2 f0 f1 f2 t4 b4 hw5 d0 d1 d2 d3 d4
   have r0 : Row w5 w.heap.size 26 [.slice A1 n1 c1, .slice A2 n2 c2, .slice A3 n3 c3, .slice A4 n4 c4, .slice A5 n5 c5] := HX5.out _ (List.mem_cons_self ..)
   have d0 := r0.cell (i := 0) rfl; have d1 := r0.cell (i := 1) rfl; have d2 := r0.cell (i := 2) rfl; have d3 := r0.cell (i := 3) rfl; have d4 := r0.cell (i := 4) rfl
   go_wp2_with (refine (callsIn_wide.1 (extra_in Fence.wide 0 trivial rfl _ _ _ _ _ _ _ _ _ _ _ _ _ _ _ _)).mono ?_; rintro e w6 ⟨rfl, rfl⟩)
   obtain ⟨w6, hw6⟩ : ∃ W, W = w5.alloc (Obj.cells #[Value.slice A1 n1 c1, Value.slice A2 n2 c2, Value.slice A3 n3 c3, Value.slice A4 n4 c4, Value.slice A5 n5 c5] 26) := ⟨_, rfl⟩
   obtain ⟨gp, hgp⟩ : ∃ g, g = w5.heap.size := ⟨_, rfl⟩
   rw [<- hw6, <- hgp]
   have l6 : Later w5 w6 := by rw [hw6]; exact (Later.refl _).alloc _
   have rb : Row w6 gp 26 [.slice A1 n1 c1, .slice A2 n2 c2, .slice A3 n3 c3, .slice A4 n4 c4, .slice A5 n5 c5] := by rw [hw6, hgp]; exact Row.new _ _ _
   have hLW : Later w w6 := B0.out.trans (HL5.out.trans l6)
   have hws : w.heap.size <= w6.heap.size := hLW.size
   have HT6 := hide (HT5.out.later l6); have HX6 := hide (HX5.out.later l6)
   have hgs6 : gs < w6.heap.size := by have := l6.size; omega
   have hlow : w1.heap.size <= w6.heap.size := by omega
   clear d0 d1 d2 d3 d4 hw6 l6 HT5 HX5 r0
   have hOwn : Own (fun (pre : List Ex) (W : World) => ∃ AC nC cC hs, TabX W w1.heap.size (.slice Aq nq cq) hs (wideW (pre.map exKey) (baseA P)) [.slice AC nC cC, .slice Ab nb cb] [P.cost ++ List.replicate pre.length 0, baseB P] /\ Boxes W [(w.heap.size, 26, [.slice A1 n1 c1, .slice A2 n2 c2, .slice A3 n3 c3, .slice A4 n4 c4, .slice A5 n5 c5]), (w.heap.size + 1, 31, [.slice none 0 0, .slice none 0 0, .slice none 0 0]), (w.heap.size + 2, 36, [.bool false, .slice none 0 0, .bool false, .slice none 0 0]), (gs, 31, [.slice Aq nq cq, .slice Ab nb cb, .slice AC nC cC])]) := by
    rintro s X Y row ⟨AC, nC, cC, hs, h1, h2⟩ hg hr
    exact ⟨AC, nC, cC, hs, h1.own_ hg hr, h2.own_ hg hr⟩
   refine (wpIn_wide (n := 10)).1 ?_
   refine range_each (α := Ex) rfl (by omega) (gf := 131) (lb := #[.pointer (some ⟨gp, 0, none⟩)]) rfl trivial (enters_of Tryz.func131 (by kernel_rfl) rfl) exEnc exG (KpF w.heap.size) (fun xs => xs.map exKey = extraL P) 48
    (fun l J W hb hJ hY h0 => extra1_in (10 - 1) (by omega) l gp _ _ _ _ _ _ _ _ _ _ _ _ _ _ _ k P HP.out w W H.out (Below.trans hLW (hb.mono hws)) (rb.later hb) J (fun pre X Y hj hs hl => hJ pre X Y none hj (Later.grownBy hl none) (fun r e => by cases e)) hY h0)
    (fun h k => h.trans k) (KpF.putObj hws) (fun _ => rfl) (fun pre W => (∃ AC nC cC hs, TabX W w1.heap.size (.slice Aq nq cq) hs (wideW (pre.map exKey) (baseA P)) [.slice AC nC cC, .slice Ab nb cb] [P.cost ++ List.replicate pre.length 0, baseB P] /\ Boxes W [(w.heap.size, 26, [.slice A1 n1 c1, .slice A2 n2 c2, .slice A3 n3 c3, .slice A4 n4 c4, .slice A5 n5 c5]), (w.heap.size + 1, 31, [.slice none 0 0, .slice none 0 0, .slice none 0 0]), (w.heap.size + 2, 36, [.bool false, .slice none 0 0, .bool false, .slice none 0 0]), (gs, 31, [.slice Aq nq cq, .slice Ab nb cb, .slice AC nC cC])]) /\ Below w.heap.size w W)
    (OwnFrom.and (hOwn.from _) (ownFrom_below (Nat.le_refl _) hws)) ⟨⟨_, _, _, hs4, by rw [List.map_nil, wideW_nil, List.length_nil, List.replicate_zero, List.append_nil]; exact HT6.out, HX6.out⟩, hLW⟩ ?round ?done
   case round =>
    clear HT6 HX6
    rintro l pre x W hl ⟨⟨AC, nC, cC, hs, hT, hX⟩, hbw⟩ hx hlen
    simp only [exEnc, RCells.val]
    have HT := hide hT; have HX := hide hX; have HBW := hide hbw; have HEX := hide hx
    clear hT hX hbw hx
    gi_wp2
    obtain ⟨W1, hW1⟩ : ∃ V, V = W.alloc (Obj.cells #[Value.bool x.e.a, Value.slice x.e.A x.e.n x.e.c, Value.bool x.e.a', Value.slice x.e.A' x.e.n' x.e.c'] 36) := ⟨_, rfl⟩
    obtain ⟨gx, hgx⟩ : ∃ g, g = W.heap.size := ⟨_, rfl⟩
    rw [<- hW1, <- hgx]
    have l1 : Later W W1 := by rw [hW1]; exact (Later.refl _).alloc _
    have rx : Row W1 gx 36 [.bool x.e.a, .slice x.e.A x.e.n x.e.c, .bool x.e.a', .slice x.e.A' x.e.n' x.e.c'] := by rw [hW1, hgx]; exact Row.new _ _ _
    have hws1 := HBW.out.size
    have hgsW : gs < W.heap.size := (HX.out _ (List.mem_cons_of_mem _ (List.mem_cons_of_mem _ (List.mem_cons_of_mem _ (List.mem_cons_self ..))))).lt
    have hl1 := l1.size
    refine ⟨(KK.later (Nat.zero_le _) l1).oth.from _, KpF.later hws1 l1, fun W2 hW2 => ?_⟩
    obtain ⟨hlB, ob, ob', hb1, hb2, hb3, hW2⟩ := hW2
    have hg : W1.grownBy W2 (some l) := by rw [hW2]; exact grownBy_putObj' W1 l ob'
    have hr : ∀ r, some l = some r -> ∃ o : Obj, W1.heap[r]? = some o /\ o.isCells = false := fun r e => by cases e; exact ⟨ob, hb1, hb2⟩
    have hT2 := (HT.out.later l1).own_ hg hr
    have hX2 := (HX.out.later l1).own_ hg hr
    have rx2 := row_own_ rx hg hr
    have hq2 : OwnR W2 0 x.e.val x.q := (OwnR.later HEX.out.1 l1).keepU (KeepU.own_ hg hr)
    have hB2 : Below w.heap.size w W2 := (HBW.out.trans (l1.mono hws1)).trans (by rw [hW2]; exact belowK_b (w := w6) hws W1 l ob ob' hlB hb1 hb2 hb3)
    have hgs2 : W1.heap.size <= W2.heap.size := hg.size
    have hgxT : ∀ u ∈ ([.slice AC nC cC, .slice Ab nb cb] ++ hs : List Value), u.ownBlock ≠ some gx := by
     intro u hu e
     obtain ⟨i, hi⟩ := List.mem_iff_getElem?.1 hu
     have hil := (List.getElem?_eq_some_iff.1 hi).1
     have h1 := (OutRats.lt (HT.out.tab.row i u _ hi (List.getElem?_eq_getElem (by rw [<- HT.out.tab.len]; exact hil))) gx e).2
     omega
    have hXX : Boxes W2 [(w.heap.size, 26, [.slice A1 n1 c1, .slice A2 n2 c2, .slice A3 n3 c3, .slice A4 n4 c4, .slice A5 n5 c5]), (w.heap.size + 1, 31, [.slice none 0 0, .slice none 0 0, .slice none 0 0]), (w.heap.size + 2, 36, [.bool false, .slice none 0 0, .bool false, .slice none 0 0]), (gs, 31, [.slice Aq nq cq, .slice Ab nb cb, .slice AC nC cC]), (gx, 36, [.bool x.e.a, .slice x.e.A x.e.n x.e.c, .bool x.e.a', .slice x.e.A' x.e.n' x.e.c'])] := by
     intro r hr
     simp only [List.mem_cons, List.not_mem_nil, or_false] at hr
     rcases hr with rfl | rfl | rfl | rfl | rfl
     ·exact hX2 _ (List.mem_cons_self ..)
     ·exact hX2 _ (List.mem_cons_of_mem _ (List.mem_cons_self ..))
     ·exact hX2 _ (List.mem_cons_of_mem _ (List.mem_cons_of_mem _ (List.mem_cons_self ..)))
     ·exact hX2 _ (List.mem_cons_of_mem _ (List.mem_cons_of_mem _ (List.mem_cons_of_mem _ (List.mem_cons_self ..))))
     ·exact rx2
    have h48 := HEX.out.2.2
    clear hW2 hb1 hb2 hb3 hg hr HT HX HEX HBW hX2 rx2 rx hW1 ob ob'
    refine wpIn_mono (pstd_body l (10 - 1 - 1) W2 k P A1 A2 A3 A4 A5 n1 n2 n3 n4 n5 c1 c2 c3 c4 c5 Aq Ab AC nq nb nC cq cb cC hs (pre.map exKey) (x.row, x.q) x.e w.heap.size (w.heap.size + 1) (w.heap.size + 2) gs gx w1.heap.size w.heap.size (by omega) (by rw [List.length_map]; exact hT2) hXX hq2 h48 (by rw [List.length_map]; exact hlen) HP.out hgxT (by omega) (by omega) (by omega) (by omega) (by omega) _ _ _ _ _ _ _ _ _ _ _ _ _ _ _ _ _ _ _ _ _ _ _ _ _ _ _ _ _ _ _ _ _ _ _ _ _ _ _ _ _ _ _ _ _ _ _ _ _ _ _ _ _ _ _ _ _ _ _ _ _ _ _ _ _ _ _ _ _ _ _ _ _ _ _ _ _ _ _ _ _ _ _ _ _ _ _ _ _ _ _ _ _ _ _ _ _ _ _ _ _ _ _ _ _ _ _ _ _ _ _ _ _ _ _ _ _ _  (goesOn w6.heap.size (KpF w.heap.size) (fun (pre : List Ex) (W : World) => (∃ AC nC cC hs, TabX W w1.heap.size (.slice Aq nq cq) hs (wideW (pre.map exKey) (baseA P)) [.slice AC nC cC, .slice Ab nb cb] [P.cost ++ List.replicate pre.length 0, baseB P] /\ Boxes W [(w.heap.size, 26, [.slice A1 n1 c1, .slice A2 n2 c2, .slice A3 n3 c3, .slice A4 n4 c4, .slice A5 n5 c5]), (w.heap.size + 1, 31, [.slice none 0 0, .slice none 0 0, .slice none 0 0]), (w.heap.size + 2, 36, [.bool false, .slice none 0 0, .bool false, .slice none 0 0]), (gs, 31, [.slice Aq nq cq, .slice Ab nb cb, .slice AC nC cC])]) /\ Below w.heap.size w W) (pre ++ [x]) W2 .normal) ?_) ?_
    ·intro a' w' AC' nC' cC' hs' hT' hX' hKK
     refine ⟨hKK.oth.from _, hKK.kp, ⟨AC', nC', cC', hs', ?_, hX'⟩, hB2.trans hKK.kp.1⟩
     rw [List.map_append, List.length_append, List.length_singleton]
     rw [List.length_map] at hT'
     exact hT'
    ·intro e a' w' h
     cases e <;> first | exact h | exact h.elim
   case done =>
    rintro D ys W hD hS ⟨⟨AC, nC, cC, hs, hT, hX⟩, hB⟩ hK
    have hyl : ys.length = (extraL P).length := by rw [<- hS, List.length_map]
    rw [hS, <- wideA_W, hyl] at hT
    have hT : TabX W w1.heap.size (.slice Aq nq cq) hs (wideA P) [.slice AC nC cC, .slice Ab nb cb] [stdC P, baseB P] := hT
    have hgsW : gs < W.heap.size := (hX _ (List.mem_cons_of_mem _ (List.mem_cons_of_mem _ (List.mem_cons_of_mem _ (List.mem_cons_self ..))))).lt
    clear HT6 HX6 hS hyl
    simp only [Exit.inBlock, Exit.then]
    apply_assumption
    refine wp_mono (pstd_tail w W A1 A2 A3 A4 A5 n1 n2 n3 n4 n5 c1 c2 c3 c4 c5 k P H.out HP.out w.heap.size (w.heap.size + 1) (w.heap.size + 2) gs w1.heap.size Aq Ab AC nq nb nC cq cb cC hs hB hX hT (by omega) (by omega) (by omega) (by omega) (by omega) (by omega) (by omega) _ _ _ _ _ _ _ _ _ _ _ _ _ _ _ _ _ _ _ _ _ _ _ _ _ _ _ _ _ _ _ _ _ _ _ _ _ _ _ _ _ _ _ _ _ _ _ _ _ _ _ _ _ _ _ _ _ _ _ _ _ _ _ _ _ _ _ _ _ _ _ _ _ _ _ _ _ _ _ _ _ _ _ _ _ _ _ _ _ _ _ _ _ _ _ _ _ _ _ _ _ _ _ _ _ _ _ _ _ _ _ _ _ _ _ _ _ _ _ _ _  (bodyPostM Fence.wide 10 Tryz.prog Tryz.f17 (PStd w P) .ret) ?_) ?_
    ·intro a' w' hs' s1 s2 P1 P2 q1 q2 e1 e2 hds h2 h3 h4 r2 r3 hT' hO hL hKO
     show LeavesInM Fence.wide 10 Tryz.prog Tryz.f17 a'.tmps (PStd w P) a'.defers .returning w'
     rw [hds]
     have hK' := hKO.same D _ hK rfl
     have hg : w'.grownBy (w'.putObj D (.deferred none)) (some D) := grownBy_putObj' w' D _
     have hr : ∀ r, some D = some r -> ∃ o : Obj, w'.heap[r]? = some o /\ o.isCells = false := fun r e => by cases e; exact ⟨_, hK', rfl⟩
     refine ⟨by simp, .inl ⟨_, _, rfl, run_takeDeferred hK', ?_⟩⟩
     refine ⟨_, results_std rfl h2 h3 h4 (row_own_ r2 hg hr) (row_own_ r3 hg hr), ?_⟩
     have hT2 := hT'.own_ hg hr
     refine ⟨_, _, _, _, by rw [HU.out]; rfl, fun _ => ⟨hT2.reads, (hT2.x (i := 1) rfl rfl).rats, (hT2.x (i := 0) rfl rfl).rats, OwnR.keepU hO (KeepU.own_ hg hr)⟩, fun h => (by rw [HU.out] at h; cases h), ?_⟩
     exact Below.trans (show Below w.heap.size w w' from hL) (belowK_b (w := w) (Nat.le_refl _) w' D _ _ (by omega) hK' rfl rfl)
    ·intro e a' w' h
     cases e <;> first | exact h | exact h.elim
theorem pstd_calls (w : World) (A1 A2 A3 A4 A5 : Option Addr) (n1 n2 n3 n4 n5 c1 c2 c3 c4 c5 : Nat) (k : Nat) (P : PLp) (h : LpIn w (.slice A1 n1 c1) (.slice A2 n2 c2) (.slice A3 n3 c3) (.slice A4 n4 c4) (.slice A5 n5 c5) k P) :
 Calls Tryz.prog 17 #[.agg #[.slice A1 n1 c1, .slice A2 n2 c2, .slice A3 n3 c3, .slice A4 n4 c4, .slice A5 n5 c5]] w (PStd w P) :=
 callsIn_wide.1 (pstd_in w _ _ _ _ _ _ _ _ _ _ _ _ _ _ _ k P h)
end Go.Proofs.YtfokplidiboabaaGreat
