/- Problems: Standard (the reference): tools; the last loop, and what is handed back. -/
import Derived.Test.YtfokplidiboabaaGreatS26
import Derived.Test.YtfokplidiboabaaGreatS8
import Derived.Test.YtfokplidiboabaaGreatS22
import Derived.Test.YtfokplidiboabaaGreatS23
import Derived.Test.YtfokplidiboabaaGreatS15
set_option linter.unusedVariables false
set_option linter.unusedSimpArgs false
set_option maxRecDepth 100000
namespace Go.Proofs.YtfokplidiboabaaGreat
open Go.RowKit Go.Shelf
attribute [local go_sem ↓] Go.wp_at_zero Go.wp_at_succ
section
variable {P : PLp}
theorem colV_lo {k : Nat} (h : k < P.cost.length) : (colV P)[k]? = some (k : Int) := by
 unfold colV
 rw [List.getElem?_append_left (by rw [List.length_map, List.length_range]; exact h), List.getElem?_map, List.getElem?_range h]; rfl
theorem colV_hi {k : Nat} {p : Nat × Rat} (h : P.cost.length <= k) (hp : (extraL P)[k - P.cost.length]? = some p) : (colV P)[k]? = some (-1) := by
 unfold colV exV
 rw [List.getElem?_append_right (by rw [List.length_map, List.length_range]; exact h), List.length_map, List.length_range, List.getElem?_map, hp]; rfl
theorem colR_hi {k : Nat} {p : Nat × Rat} (h : P.cost.length <= k) (hp : (extraL P)[k - P.cost.length]? = some p) : (colR P)[k]? = some (p.1 : Int) := by
 unfold colR exR
 rw [List.getElem?_append_right (by rw [List.length_replicate]; exact h), List.length_replicate, List.getElem?_map, hp]; rfl
theorem colA_hi {k : Nat} {p : Nat × Rat} (h : P.cost.length <= k) (hp : (extraL P)[k - P.cost.length]? = some p) : (colA P)[k]? = some p.2.num := by
 unfold colA exA
 rw [List.getElem?_append_right (by rw [List.length_replicate]; exact h), List.length_replicate, List.getElem?_map, hp]; rfl
theorem one_num {x : Rat} (h : x = 1 ∨ x = -1) : Rat.divInt x.num 1 = x /\ -9223372036854775808 <= x.num /\ x.num < 9223372036854775808 := by
 rcases h with rfl | rfl
 ·exact ⟨by decide +kernel, by decide +kernel, by decide +kernel⟩
 ·exact ⟨by decide +kernel, by decide +kernel, by decide +kernel⟩
def stdRow (P : PLp) (j : Nat) (arow : List Rat) (b : Rat) : List Rat := flipR (exRow (extraL P) j arow) b
theorem stdA_row {j : Nat} {arow : List Rat} {b : Rat} (h1 : (baseA P)[j]? = some arow) (h2 : (baseB P)[j]? = some b) : (stdA P)[j]? = some (stdRow P j arow b) := by
 have hj : j < (wideA P).length := by rw [wideA_len, <- baseA_len]; exact (List.getElem?_eq_some_iff.1 h1).1
 rw [stdA_get hj]
 unfold stdRow
 have e1 : (baseB P).getD j 0 = b := by rw [List.getD_eq_getElem?_getD, h2]; rfl
 have e2 : (wideA P).getD j [] = exRow (extraL P) j arow := by
  rw [wideA_W, List.getD_eq_getElem?_getD, wideW_get _ _ (List.getElem?_eq_some_iff.1 h1).1, List.getD_eq_getElem?_getD, h1]; rfl
 rw [e1, e2]
theorem stdB_at {j : Nat} {b : Rat} (h2 : (baseB P)[j]? = some b) : (stdB P)[j]? = some (b * sgq b) := by unfold stdB; rw [List.getElem?_map, h2]; rfl
theorem stdRow_lo {j k : Nat} {arow : List Rat} {b q : Rat} (h : arow[k]? = some q) : (stdRow P j arow b)[k]? = some (q * sgq b) := by
 unfold stdRow flipR exRow
 rw [List.getElem?_map, List.getElem?_append_left (List.getElem?_eq_some_iff.1 h).1, h]; rfl
theorem stdRow_hi {j k : Nat} {arow : List Rat} {b : Rat} {p : Nat × Rat} (hl : arow.length = P.cost.length) (h : P.cost.length <= k) (hp : (extraL P)[k - P.cost.length]? = some p) : (stdRow P j arow b)[k]? = some ((if j = p.1 then p.2 else 0) * sgq b) := by
 unfold stdRow flipR exRow
 rw [List.getElem?_map, List.getElem?_append_right (by omega), hl, List.getElem?_map, hp]; rfl
theorem stdRow_len {j : Nat} {arow : List Rat} {b : Rat} (hl : arow.length = P.cost.length) : (stdRow P j arow b).length = P.cost.length + (extraL P).length := by
 unfold stdRow flipR exRow; simp [hl]
end
theorem sgq_sized_ (b : Rat) : Sized (sgq b) 1 := by unfold sgq; split <;> first | exact sized_m1 | exact sized_1
theorem grown_cell {w w' : World} {row : Option Nat} (hg : w.grownBy w' row) {p : Addr} {u : Value} (hc : w.cell? p = some u) (hne : some p.block ≠ row) : w'.cell? p = some u := (World.cell?_of_block (hg.block _ (World.block_lt_of_cell? w p hc) hne)).trans hc
theorem take_more {α : Type} {l : List α} {k : Nat} {q : α} (h : l[k]? = some q) : l.take (k+1) = l.take k ++ [q] := by rw [List.take_add_one, h]; rfl
theorem Sq.at1_ {w : World} {A : Option Addr} {n c : Nat} {l : List Int} (h : Sq 1 iCells w (.slice A n c) l) {i : Nat} {z : Int} (hi : l[i]? = some z) : ∃ b off, A = some ⟨b, off, none⟩ /\ w.cell? ⟨b, off + i, none⟩ = some (.int .i64 z) := by
 obtain ⟨b, off, ha, hx⟩ := h.at_ hi
 exact ⟨b, off, ha, by have := hx 0 _ rfl; rwa [Nat.mul_one, Nat.add_zero] at this⟩
theorem colR_len_ (P : PLp) : (colR P).length = P.cost.length + (extraL P).length := by unfold colR exR; simp
theorem colA_len_ (P : PLp) : (colA P).length = P.cost.length + (extraL P).length := by unfold colA exA; simp
structure RF (W : World) (P : PLp) (k g0 g2 g3 : Nat) (bpl : List Value) (vv vr va vT vU : Value) : Prop where
 b0 : Row W g0 26 bpl
 b2 : Row W g2 31 [.slice none 0 0, .slice none 0 0, .slice none 0 0]
 b3 : Row W g3 36 [.bool false, .slice none 0 0, .bool false, .slice none 0 0]
 cv : Sq 1 iCells W vv (colV P)
 cr : Sq 1 iCells W vr (colR P)
 ca : Sq 1 iCells W va (colA P)
 t : Tab (ERaw (k+1)) W vT (baseA P)
 u : Rats EOwn W vU (baseB P)
theorem RF.later {W W' : World} {P : PLp} {k g0 g2 g3 : Nat} {bpl : List Value} {vv vr va vT vU : Value} (h : RF W P k g0 g2 g3 bpl vv vr va vT vU) (hb : Later W W') : RF W' P k g0 g2 g3 bpl vv vr va vT vU :=
 ⟨h.b0.later hb, h.b2.later hb, h.b3.later hb, h.cv.later hb, h.cr.later hb, h.ca.later hb, h.t.later ERaw.later hb, h.u.later EOwn.later hb⟩
def NewAt (w : World) (g : Nat) (q : Rat) (wx : World) : Prop := ∃ s P n e s' P' n' e', Row wx g 36 [.bool s, .slice P n e, .bool s', .slice P' n' e'] /\ OwnR wx 0 (.agg #[.bool s, .slice P n e, .bool s', .slice P' n' e']) q /\ Later w wx
theorem wpList_append_tabx {w : World} {ops : Array Oper} {rest : List Oper} {o : Oper} {a : Act} {Q : Exit -> Act -> World -> Prop} (hgd : o.guard = none) (s x : Operand) (ho : o.op = .call { callee := .builtin .append, args := #[s, x], argTypes := #[29, 29] })
 {lo : Nat} {v : Value} {hs xs : List Value} {t ls : List (List Rat)} {g : Nat} {row : List Rat} {A : Option Addr} {n c : Nat} (hv : a.eval s = v) (hown : TabX w lo v hs t xs ls)
 (hx : a.eval x = .slice (some ⟨g, 0, none⟩) 1 1) (hrow : Row w g 22 [.slice A n c]) (hnew : RowU w lo (.slice A n c) row) (hap : ∀ u ∈ xs ++ hs, ∀ k, u.ownBlock = some k -> (Value.slice A n c).ownBlock ≠ some k) (hlen : hs.length <= 3000000) (hbase : lo <= w.heap.size)
 (h : ∀ v' w', TabX w' lo v' (hs ++ [.slice A n c]) (t ++ [row]) xs ls -> w.grownBy w' v.ownBlock -> (v'.ownBlock = v.ownBlock ∨ v'.ownBlock = some w.heap.size) -> wpList Tryz.prog ops Q rest (a.put o.dst v') w') : wpList Tryz.prog ops Q (o :: rest) a w :=
 wpList_plain hgd fun K hK => wp_append_tabx s x ho hv hown hx hrow hnew hap hlen hbase fun v' w' h1 h2 h3 => hK _ _ (h v' w' h1 h2 h3)
theorem TabX.ltAll {w : World} {lo : Nat} {v : Value} {hs xs : List Value} {t ls : List (List Rat)} (h : TabX w lo v hs t xs ls) : ∀ u ∈ xs ++ hs, ∀ k, u.ownBlock = some k -> k < w.heap.size := by
 intro u hu k hk
 obtain ⟨i, hi⟩ := List.mem_iff_getElem?.1 hu
 have hil := (List.getElem?_eq_some_iff.1 hi).1
 exact (OutRats.lt (h.tab.row i u _ hi (List.getElem?_eq_getElem (by rw [<- h.tab.len]; exact hil))) k hk).2
theorem cmpQ_lt0_ (a b : Rat) : cmpQ a b < 0 ↔ a < b := by unfold cmpQ; split <;> (try split) <;> constructor <;> intro h <;> first | omega | grind
set_option maxHeartbeats 32000000 in
theorem rstd_D (w0 wr0 : World) (A1 A2 A3 A4 A5 : Option Addr) (n1 n2 n3 n4 n5 c1 c2 c3 c4 c5 : Nat) (k : Nat) (P : PLp) (h : LpIn w0 (.slice A1 n1 c1) (.slice A2 n2 c2) (.slice A3 n3 c3) (.slice A4 n4 c4) (.slice A5 n5 c5) k P) (hP : LpP P)
 (g0 g2 g3 gs : Nat) (Av At Aa AT AU AC : Option Addr) (nv nt na nT nU nC cv ct ca cT cU cC : Nat) (hL : Later w0 wr0)
 (hS : Row wr0 gs 31 [.slice none 0 0, .slice none 0 0, .slice AC nC cC]) (hC : On wr0 (fun b => b ≠ gs /\ b ≠ g2 /\ b ≠ g3) (fun W => Rats EOwn W (.slice AC nC cC) (stdC P))) (hF : On wr0 (fun b => b ≠ gs) (fun W => RF W P k g0 g2 g3 [.slice A1 n1 c1, .slice A2 n2 c2, .slice A3 n3 c3, .slice A4 n4 c4, .slice A5 n5 c5] (.slice Av nv cv) (.slice At nt ct) (.slice Aa na ca) (.slice AT nT cT) (.slice AU nU cU)))
 (hg2 : w0.heap.size <= g2) (hg3 : w0.heap.size <= g3) (hgs0 : w0.heap.size <= gs) (hg2s : gs ≠ g2) (ds : List Deferred) (v0 v9 v10 v13 v14 v15 v16 v17 v18 v19 v20 v21 v22 v23 v24 v25 v26 v27 v28 v29 v30 v31 v32 v33 v34 v35 v36 v37 v38 v39 v40 v41 v42 v43 v44 v45 v46 v47 v48 v49 v50 v51 v52 v53 v54 v55 v56 v57 v58 v59 v60 v61 v62 v63 v64 v65 v66 v67 v68 v69 v70 v71 v72 v73 v74 v75 v76 v77 v78 v79 v80 v81 v82 v83 v84 v85 v86 v87 v88 v89 v90 v91 v92 v93 v94 v95 v96 v97 v98 v99 v100 v101 v102 v103 v104 v105 v106 v107 v108 v109 v110 v111 v112 v113 v114 v115 v116 v117 v118 v119 v120 v121 v122 v123 v124 v125 v126 v127 v128 v129 v130 v131 v132 v133 v134 v135 v136 v137 v138 v139 v140 v141 v142 v143 v144 v145 v146 v147 v148 v149 v150 v151 v152 v153 v154 v155 v156 v157 v158 v159 v160 v161 v162 v163 v164 v165 v166 v167 v168 v169 v170 v171 v172 v173 v174 v175 v176 v177 v178 v179 v180 v181 v182 v183 v184 v185 v186 v187 v188 v189 v190 v191 v192 v193 v194 v195 v196 v197 v198 v199 v200 v201 v202 v203 v204 v205 v206 v207 v208 v209 v210 v211 v212 v213 v214 v215 v216 v217 v218 v219 v220 v221 : Value) (R : Act -> World -> Prop)
 (hQ : ∀ (a' : Act) (w' : World) (vA vB : Value) (s1 s2 : Bool) (P1 P2 : Option Addr) (q1 q2 e1 e2 : Nat), a'.defers = ds -> a'.tmps[2]?.getD undef = .pointer (some ⟨g2, 0, none⟩) -> a'.tmps[3]?.getD undef = .pointer (some ⟨g3, 0, none⟩) -> a'.tmps[4]?.getD undef = .int .i64 0 ->
  Row w' g2 31 [vA, vB, .slice AC nC cC] -> Row w' g3 36 [.bool s1, .slice P1 q1 e1, .bool s2, .slice P2 q2 e2] -> Tab EOwn w' vA (stdA P) -> Rats EOwn w' vB (stdB P) -> Rats EOwn w' (.slice AC nC cC) (stdC P) -> OwnR w' 0 (.agg #[.bool s1, .slice P1 q1 e1, .bool s2, .slice P2 q2 e2]) (restV P) -> Later w0 w' -> R a' w') :
 Code.wp Tryz.prog (sSnd (sSnd (sSnd (sSnd (sSnd (sSnd (sSnd (sSnd (sSnd ((Tryz.f18.body.getD .skip))))))))))) (retOnly R) { tmps := #[v0, .pointer (some ⟨g0, 0, none⟩), .pointer (some ⟨g2, 0, none⟩), .pointer (some ⟨g3, 0, none⟩), .int .i64 0, .slice Av nv cv, .slice At nt ct, .slice Aa na ca, .pointer (some ⟨gs, 0, none⟩), v9, v10, .slice AT nT cT, .slice AU nU cU, v13, v14, v15, v16, v17, v18, v19, v20, v21, v22, v23, v24, v25, v26, v27, v28, v29, v30, v31, v32, v33, v34, v35, v36, v37, v38, v39, v40, v41, v42, v43, v44, v45, v46, v47, v48, v49, v50, v51, v52, v53, v54, v55, v56, v57, v58, v59, v60, v61, v62, v63, v64, v65, v66, v67, v68, v69, v70, v71, v72, v73, v74, v75, v76, v77, v78, v79, v80, v81, v82, v83, v84, v85, v86, v87, v88, v89, v90, v91, v92, v93, v94, v95, v96, v97, v98, v99, v100, v101, v102, v103, v104, v105, v106, v107, v108, v109, v110, v111, v112, v113, v114, v115, v116, v117, v118, v119, v120, v121, v122, v123, v124, v125, v126, v127, v128, v129, v130, v131, v132, v133, v134, v135, v136, v137, v138, v139, v140, v141, v142, v143, v144, v145, v146, v147, v148, v149, v150, v151, v152, v153, v154, v155, v156, v157, v158, v159, v160, v161, v162, v163, v164, v165, v166, v167, v168, v169, v170, v171, v172, v173, v174, v175, v176, v177, v178, v179, v180, v181, v182, v183, v184, v185, v186, v187, v188, v189, v190, v191, v192, v193, v194, v195, v196, v197, v198, v199, v200, v201, v202, v203, v204, v205, v206, v207, v208, v209, v210, v211, v212, v213, v214, v215, v216, v217, v218, v219, v220, v221], defers := ds } wr0 := by
 obtain ⟨CT, hCT⟩ : ∃ C, C = sSnd (sSnd (sSnd (sSnd (sSnd (sSnd (sSnd (sSnd (sSnd ((Tryz.f18.body.getD .skip)))))))))) := ⟨_, rfl⟩
 rw [<- hCT]
 conv at hCT => rhs; whnf
 subst hCT
 have H := hide h
 have hc1 := h.cost; have hr1 := h.rows; have hl1 := h.lo; have hh1 := h.hi; have ho1 := h.opn
 have L1 := hide hc1.len_; have L2 := hide hr1.len_; have L3 := hide hl1.len_; have L4 := hide hh1.len_; have L5 := hide ho1.len_
 have hn1 : n1 <= 1000 := by have := h.cl; have := L1.out; omega
 have hn2 : n2 <= 1000 := by have := h.rl; have := L2.out; omega
 have hn3 : n3 <= 1000 := by have := h.ll; have := L3.out; omega
 have hn4 : n4 <= 1000 := by have := h.hl; have := L4.out; omega
 have hn5 : n5 <= 1000 := by have := h.ol; have := L5.out; omega
 have hkk := h.kk
 clear h hc1 hr1 hl1 hh1 ho1
 have HP := hide hP; have HL0 := hide hL; have HS := hide hS; have HC := hide hC; have HF := hide hF; have HQ := hide hQ
 have SB := hide (baseB_sized H.out hP); have SA := hide (baseA_sized H.out hP)
 have hfn := hF.now
 have HNT : Hid (nT = (baseA P).length) := hide (by obtain ⟨_, _, e, -⟩ := hfn.t; injection e)
 have HNU : Hid (nU = (baseB P).length) := hide hfn.u.len_
 have HNV : Hid (nv = (colV P).length) := hide (by obtain ⟨_, _, e, -⟩ := hfn.cv; injection e)
 have HNR : Hid (nt = (colR P).length) := hide (by obtain ⟨_, _, e, -⟩ := hfn.cr; injection e)
 have HNA : Hid (na = (colA P).length) := hide (by obtain ⟨_, _, e, -⟩ := hfn.ca; injection e)
 have hnT : nT <= 48 := by have := HNT.out; rw [baseA_len] at this; have := hP.rl; have := endsL_len_le hP; omega
 have hnv : nv <= 72 := by have := HNV.out; rw [colV_len] at this; have := hP.n24; have := extraL_len_le hP; omega
 clear hP hL hS hC hF hQ hfn
 go_wp2_with fail
 go_loopw [18] (fun i wr => ∃ j : Nat, j <= nT /\ i = .int .i64 (j : Int) /\ ∃ A6 n6 c6 Ab nb cb hs, Row wr gs 31 [.slice A6 n6 c6, .slice Ab nb cb, .slice AC nC cC] /\ TabX wr wr0.heap.size (.slice A6 n6 c6) hs ((stdA P).take j) [.slice Ab nb cb] [(stdB P).take j] /\ On wr (fun b => b ≠ gs /\ b < wr0.heap.size) (fun W => RF W P k g0 g2 g3 [.slice A1 n1 c1, .slice A2 n2 c2, .slice A3 n3 c3, .slice A4 n4 c4, .slice A5 n5 c5] (.slice Av nv cv) (.slice At nt ct) (.slice Aa na ca) (.slice AT nT cT) (.slice AU nU cU)) /\ On wr (fun b => (b ≠ gs /\ b ≠ g2 /\ b ≠ g3) /\ b < wr0.heap.size) (fun W => Rats EOwn W (.slice AC nC cC) (stdC P)) /\ Later w0 wr /\ wr0.heap.size <= wr.heap.size) (fun i _ => (nT - intOf i).toNat)
 case atStart => exact ⟨0, by omega, rfl, _, _, _, _, _, _, _, HS.out, (TabX.nil wr0 wr0.heap.size).loose (Later.refl _) (RowU.nil _ _) (fun k hk => by cases hk), On.mono HF.out (fun b hb hlt => ⟨hb, hlt⟩), On.mono HC.out (fun b hb hlt => ⟨hb, hlt⟩), HL0.out, Nat.le_refl _⟩
 case round =>
  rename World => wo
  obtain ⟨j, hj, rfl, A6, n6, c6, Ab, nb, cb, hs, hR, hT, hON, hOC, hL, hsz⟩ := hrel
  have HR := hide hR; have HT := hide hT; have HON := hide hON; have HOC := hide hOC; have HL := hide hL; have HSZ := hide hsz
  clear hR hT hON hOC hL hsz
  by_cases hjn : j < nT
  ·skip
   obtain ⟨arow, hrow⟩ : ∃ r, (baseA P)[j]? = some r := ⟨(baseA P)[j]'(by have := HNT.out; omega), List.getElem?_eq_getElem _⟩
   obtain ⟨bq, hbq⟩ : ∃ q, (baseB P)[j]? = some q := ⟨(baseB P)[j]'(by have := HNT.out; rw [baseB_len]; rw [baseA_len] at this; omega), List.getElem?_eq_getElem _⟩
   have hrf := HON.out.now
   obtain ⟨bT, offT, A7, n7, c7, eT, xT, hRW⟩ := hrf.t.at_ hrow
   subst eT
   obtain ⟨b5, off5, zs, zA, zn, zc, zs', zA', zn', zc', ez, z1, z2, z3, z4, zE⟩ := hrf.u.at_ hbq
   subst ez
   have HROWD := hide (take_more (stdA_row hrow hbq)); have HBD := hide (take_more (stdB_at hbq)); have HBQ := hide hbq
   have HB5 : Hid (b5 < wr0.heap.size) := hide (by
    obtain ⟨b', off', s', A', n', c', s2', A2', n2', c2', e', q1, -⟩ := HF.out.now.u.at_ hbq
    injection e' with e'; injection e' with e' _
    rw [e']; exact World.block_lt_of_cell? _ _ q1)
   have HRL : Hid (arow.length = P.cost.length) := hide (baseA_rows HP.out arow (List.mem_of_getElem? hrow))
   have HBE := hide (show OwnR wo 0 (.agg #[.bool zs, .slice zA zn zc, .bool zs', .slice zA' zn' zc']) bq from zE); have HBS : Hid (Sized bq 200000) := hide (SB.out bq (List.mem_of_getElem? hbq))
   have HRW := hide hRW; have HXT := hide xT
   have HZC4 : Hid (wo.cell? ⟨b5, off5 + j * 4, none⟩ = some (.bool zs) /\ wo.cell? ⟨b5, off5 + j * 4 + 1, none⟩ = some (.slice zA zn zc) /\ wo.cell? ⟨b5, off5 + j * 4 + 2, none⟩ = some (.bool zs') /\ wo.cell? ⟨b5, off5 + j * 4 + 3, none⟩ = some (.slice zA' zn' zc')) := hide ⟨z1, z2, z3, z4⟩
   obtain ⟨zz, hz⟩ : ∃ z, cmpQ bq 0 = z := ⟨_, rfl⟩
   have HZ := hide hz
   obtain ⟨u9, t9⟩ : ∃ u9, decide (zz < 0) = u9 := ⟨_, rfl⟩
   have hj0 : (0 : Int) <= (j : Int) := by omega
   have hj1 : (j : Int) < nT := by omega
   have hj2 : j < nU := by have h1 := HNT.out; have h2 := HNU.out; rw [baseA_len] at h1; rw [baseB_len] at h2; omega
   clear hrow hbq hrf xT hRW z1 z2 z3 z4 zE hz
   go_upto_region 32 with ((with_reducible refine (rone_calls _ 1 (by omega) (by omega) 1 div_1).mono ?_); rintro e w1 ⟨v1_, rfl, o1, b1⟩; obtain ⟨s1, P1, q1, e1, P1', q1', e1', rfl, o1⟩ := o1.open_; have O1 := hide o1; clear o1)
   obtain ⟨w2, hw2⟩ : ∃ w2, w2 = w1.alloc (Obj.cells #[Value.bool s1, Value.slice P1 q1 e1, Value.bool false, Value.slice P1' q1' e1'] 36) := ⟨_, rfl⟩
   obtain ⟨gn, hgn⟩ : ∃ gn, gn = w1.heap.size := ⟨_, rfl⟩
   have bw2 : Later w1 w2 := by rw [hw2]; exact (Later.refl _).alloc _
   have rgn : Row w2 gn 36 [.bool s1, .slice P1 q1 e1, .bool false, .slice P1' q1' e1'] := by rw [hw2, hgn]; exact Row.new _ _ _
   rw [<- hw2, <- hgn]
   have HL1 := hide b1; have HL12 := hide bw2; have RN := hide rgn; have ON := hide (OwnR.later O1.out bw2)
   have HGN : Hid (gn = w1.heap.size) := hide hgn
   have HT1 : Hid (∀ w', Later w2 w' -> w'.cell? ⟨b5, off5 + j * 4, none⟩ = some (.bool zs) /\ w'.cell? ⟨b5, off5 + j * 4 + 1, none⟩ = some (.slice zA zn zc) /\ w'.cell? ⟨b5, off5 + j * 4 + 2, none⟩ = some (.bool zs') /\ w'.cell? ⟨b5, off5 + j * 4 + 3, none⟩ = some (.slice zA' zn' zc')) := hide fun w' hb => by
    obtain ⟨y1, y2, y3, y4⟩ := HZC4.out
    have hl := b1.trans (bw2.trans hb)
    exact ⟨Later.cell hl y1, Later.cell hl y2, Later.cell hl y3, Later.cell hl y4⟩
   have HBE0 := HBE
   have HBE := hide (OwnR.later HBE0.out (b1.trans bw2))
   clear hw2 hgn rgn O1 bw2 b1
   have hmx : Tryz.prog.follows .mixedOrders = true := by kernel_rfl
   refine wp_region_N (fun w' => w'.cell? ⟨b5, off5 + j * 4, none⟩ = some (.bool zs) /\ w'.cell? ⟨b5, off5 + j * 4 + 1, none⟩ = some (.slice zA zn zc) /\ w'.cell? ⟨b5, off5 + j * 4 + 2, none⟩ = some (.bool zs') /\ w'.cell? ⟨b5, off5 + j * 4 + 3, none⟩ = some (.slice zA' zn' zc')) [] hmx (HT1.out _ lt_) (fun hHeld => ?_)
   refine tkB 148 0 ?_
   refine tkB 149 1 ?_
   refine tkB 150 2 ?_
   refine tkB 151 3 ?_
   refine wpAnyN_ready (rs := [4]) (by kernel_rfl) (by simp) ?_
   refine AllReadyN.held rfl (by rfl) (fun K hK => ?_) AllReadyN.nil
   go_simp
   refine (rone_calls _ 0 (by omega) (by omega) 0 div_0).mono ?_
   rintro e w3 ⟨v3_, rfl, o3, b3⟩
   obtain ⟨s3, P3, q3, e3, P3', q3', e3', rfl, o3⟩ := o3.open_; have O3 := hide o3; clear o3
   have l3 : Later w2 w3 := Later.trans lt_ b3
   refine hK.out _ _ ?_ (fun hHeld => ?_)
   ·exact HT1.out _ lt_
   clear hK K
   try simp only [Act.put, s1_, s2_, s3_]
   refine wpAnyN_ready (rs := [5]) (by kernel_rfl) (by simp) ?_
   refine AllReadyN.held rfl (by rfl) (fun K hK => ?_) AllReadyN.nil
   go_simp
   refine (qcmp_calls _ _ _ bq 0 200000 1 (OwnR.raw (OwnR.later HBE.out lt_) HBS.out) (OwnR.raw (OwnR.later O3.out lt_) sized_0) (by omega)).mono ?_
   rintro e w4 ⟨rfl, b4⟩
   rw [HZ.out]
   have l4 : Later w2 w4 := Later.trans lt_ b4
   refine hK.out _ _ ?_ (fun hHeld => ?_)
   ·exact HT1.out _ lt_
   clear hK K
   try simp only [Act.put, s1_, s2_, s3_]
   refine tkB 154 6 ?_
   refine wpAnyN_done (by kernel_rfl) ?_ _
   have HLs := hide (Later.trans HL12.out l4)
   have HRn := hide (RN.out.later l4)
   have HOn := hide (OwnR.later ON.out l4)
   clear hHeld l3 l4 b3 b4 O3
   go_upto_if 154 with fail
   go_cut [] from 147 to 211 (fun wx => NewAt w1 gn (sgq bq) wx)
   case first =>
    cases u9 with
    | true =>
      have hsg : sgq bq = -1 := by
       have : bq < 0 := (cmpQ_lt0_ bq 0).1 (by rw [HZ.out]; simpa using t9)
       unfold sgq; rw [if_pos this]
      have HSG := hide hsg
      clear hsg
      go_wp2_with ((with_reducible refine (rone_calls _ (-1) (by omega) (by omega) (-1) div_m1).mono ?_); rintro e w6 ⟨v6_, rfl, o6, b6⟩; obtain ⟨s6, P6, q6, e6, P6', q6', e6', rfl, o6⟩ := o6.open_; have O6 := hide o6; clear o6; have r6 := HRn.out.later b6; have k0 := r6.cell (i := 0) rfl; have k1 := r6.cell (i := 1) rfl; have k2 := r6.cell (i := 2) rfl; have k3 := r6.cell (i := 3) rfl; have z0 := r6.frozen 0; have z1 := r6.frozen 1; have z2 := r6.frozen 2; have z3 := r6.frozen 3)
      have oo := Only.four gn w6 (.bool s6) (.slice P6 q6 e6) (.bool false) (.slice P6' q6' e6')
      go_meet
      refine ⟨_, _, _, _, _, _, _, _, r6.four _ _ _ _, (by rw [HSG.out]; exact OwnR.keepU O6.out (KeepU.only oo r6 tRat_u32)), ?_⟩
      exact (HLs.out.trans b6).only oo (by rw [HGN.out]; exact Nat.le_refl _)
    | false =>
      have hsg : sgq bq = 1 := by
       have : ¬ bq < 0 := fun h => by
        have := (cmpQ_lt0_ bq 0).2 h
        rw [HZ.out] at this
        simp at t9; omega
       unfold sgq; rw [if_neg this]
      go_wp2_with fail
      go_meet
      exact ⟨_, _, _, _, _, _, _, _, HRn.out, (by rw [hsg]; exact HOn.out.weaken (Nat.zero_le _)), HLs.out⟩
   case rest =>
    rename_i wc hcut
    obtain ⟨ss, Ps, ns, es, ss', Ps', ns', es', hRs, hOs, hLs⟩ := hcut
    have RSG := hide hRs; have OSG := hide hOs
    have HLwc : Hid (Later wo wc) := hide (HL1.out.trans hLs)
    clear hRs hOs hLs HLs HRn HOn HT1 HBE
    go_wp2_with fail
    go_loopw [20, 21] (fun rv i wi => ∃ m : Nat, m <= nv /\ i = .int .i64 (m : Int) /\ RowU wi wc.heap.size rv ((stdRow P j arow bq).take m) /\ Later wc wi) (fun _ i _ => (nv - intOf i).toNat)
    case atStart => exact ⟨0, by omega, rfl, RowU.nil _ _, Later.refl _⟩
    case round =>
     rename World => wi
     obtain ⟨m, hm, rfl, hrow, hLi⟩ := hrel
     have HROW := hide hrow; have HLi := hide hLi
     clear hrow hLi
     by_cases hmn : m < nv
     ·skip
      have hm0 : (0 : Int) <= (m : Int) := by omega
      have hm1 : (m : Int) < nv := by omega
      have HLwi := hide (HLwc.out.trans HLi.out)
      have hrf := (HON.out.now).later HLwi.out
      have HLM : Hid (((stdRow P j arow bq).take m).length <= 3000000) := hide (by rw [List.length_take]; omega)
      go_upto_region 39 with ((with_reducible refine (rone_calls _ 0 (by omega) (by omega) 0 div_0).mono ?_); rintro e w7 ⟨v7_, rfl, o7, b7⟩; obtain ⟨s7, P7, q7, e7, P7', q7', e7', rfl, o7⟩ := o7.open_; have O7 := hide o7; clear o7)
      obtain ⟨w8, hw8⟩ : ∃ w8, w8 = w7.alloc (Obj.cells #[Value.bool s7, Value.slice P7 q7 e7, Value.bool false, Value.slice P7' q7' e7'] 36) := ⟨_, rfl⟩
      obtain ⟨gx, hgx⟩ : ∃ gx, gx = w7.heap.size := ⟨_, rfl⟩
      have bw8 : Later w7 w8 := by rw [hw8]; exact (Later.refl _).alloc _
      have rgx : Row w8 gx 36 [.bool s7, .slice P7 q7 e7, .bool false, .slice P7' q7' e7'] := by rw [hw8, hgx]; exact Row.new _ _ _
      rw [<- hw8, <- hgx]
      have HL78 := hide (b7.trans bw8); have RX8 := hide rgx; have O8 := hide (OwnR.later O7.out bw8)
      have HGX : Hid (wi.heap.size <= gx) := hide (by rw [hgx]; exact b7.size)
      clear hw8 hgx rgx O7 bw8 b7
      by_cases hc : m < P.cost.length
      ·skip
       obtain ⟨q, hq⟩ : ∃ q, arow[m]? = some q := ⟨arow[m]'(by rw [HRL.out]; exact hc), List.getElem?_eq_getElem _⟩
       obtain ⟨bv, ofv, ev, xv⟩ := hrf.cv.at1_ (colV_lo hc)
       have hRWi := HRW.out.later ERaw.later (HLwi.out)
       obtain ⟨b8, off8, ys, yA, yn, yc, ys', yA', yn', yc', ey, y1, y2, y3, y4, yE⟩ := hRWi.at_ hq
       subst ey
       subst ev
       have HTK := hide (take_more (stdRow_lo (P := P) (j := j) (b := bq) hq))
       have hn7 : n7 = arow.length := HRW.out.len_
       have hm2 : m < n7 := by rw [hn7, HRL.out]; exact hc
       have HAE : Hid (∀ W, Later wi W -> RawR W (.agg #[.bool ys, .slice yA yn yc, .bool ys', .slice yA' yn' yc']) q (k+1)) := hide fun W hW => RawR.later (show RawR wi (.agg #[.bool ys, .slice yA yn yc, .bool ys', .slice yA' yn' yc']) q (k+1) from yE) hW
       have xT := Later.cell HLwi.out HXT.out
       have HT1 : Hid (∀ w', Later w8 w' -> w'.cell? ⟨bT, offT + j, none⟩ = some (.slice (some ⟨b8, off8, none⟩) n7 c7) /\ w'.cell? ⟨bv, ofv + m, none⟩ = some (.int .i64 (m : Int)) /\ w'.cell? ⟨b8, off8 + m * 4, none⟩ = some (.bool ys) /\ w'.cell? ⟨b8, off8 + m * 4 + 1, none⟩ = some (.slice yA yn yc) /\ w'.cell? ⟨b8, off8 + m * 4 + 2, none⟩ = some (.bool ys') /\ w'.cell? ⟨b8, off8 + m * 4 + 3, none⟩ = some (.slice yA' yn' yc')) := hide fun w' hb => by
        have hl := HL78.out.trans hb
        exact ⟨Later.cell hl xT, Later.cell hl xv, Later.cell hl y1, Later.cell hl y2, Later.cell hl y3, Later.cell hl y4⟩
       have xv := Later.cell HL78.out xv
       clear hq hRWi yE y1 y2 y3 y4 hn7 xT hrf
       go_upto_region 40 with fail
       have k0 := RX8.out.cell (i := 0) rfl; have k1 := RX8.out.cell (i := 1) rfl; have k2 := RX8.out.cell (i := 2) rfl; have k3 := RX8.out.cell (i := 3) rfl; have kz0 := RX8.out.frozen 0; have kz1 := RX8.out.frozen 1; have kz2 := RX8.out.frozen 2; have kz3 := RX8.out.frozen 3
       have hmx : Tryz.prog.follows .mixedOrders = true := by kernel_rfl
       refine wp_region_N (fun w' => w'.cell? ⟨bT, offT + j, none⟩ = some (.slice (some ⟨b8, off8, none⟩) n7 c7) /\ w'.cell? ⟨bv, ofv + m, none⟩ = some (.int .i64 (m : Int)) /\ w'.cell? ⟨b8, off8 + m * 4, none⟩ = some (.bool ys) /\ w'.cell? ⟨b8, off8 + m * 4 + 1, none⟩ = some (.slice yA yn yc) /\ w'.cell? ⟨b8, off8 + m * 4 + 2, none⟩ = some (.bool ys') /\ w'.cell? ⟨b8, off8 + m * 4 + 3, none⟩ = some (.slice yA' yn' yc')) [10] hmx (HT1.out _ lt_) (fun hHeld => ?_)
       refine tkB 168 0 ?_
       refine tkB 169 1 ?_
       refine tkB 170 2 ?_
       refine tkB 171 3 ?_
       refine tkB 172 4 ?_
       refine tkB 173 5 ?_
       refine tkB 174 6 ?_
       refine tkB 175 7 ?_
       refine tkB 176 8 ?_
       refine tkB 177 9 ?_
       refine wpAnyN_ready (rs := [10]) (by kernel_rfl) (by simp) ?_
       refine AllReadyN.free rfl (by rfl) (by kernel_rfl) (fun K hK => ?_) AllReadyN.nil
       go_simp
       refine hK.out _ _ ?_
       clear hK K
       try simp only [Act.put, s1_, s2_, s3_]
       refine wpAnyN_done (by kernel_rfl) ?_ _
       clear hHeld
       obtain ⟨wY0, hwY⟩ : ∃ W, W = ((((w8.setCell ⟨gx, 0, none⟩ (.bool ys)).setCell ⟨gx, 1, none⟩ (.slice yA yn yc)).setCell ⟨gx, 2, none⟩ (.bool ys')).setCell ⟨gx, 3, none⟩ (.slice yA' yn' yc')) := ⟨_, rfl⟩
       rw [<- hwY]
       have oo : Only gx w8 wY0 := by rw [hwY]; exact Only.four _ _ _ _ _ _
       have rY0 : Row wY0 gx 36 [.bool ys, .slice yA yn yc, .bool ys', .slice yA' yn' yc'] := by rw [hwY]; exact RX8.out.four _ _ _ _
       have hly0 := ((HLi.out.trans HL78.out).only oo (by have := HLi.out.size; have := HGX.out; omega)).drew
       have hliy0 := (HL78.out.only oo (by have := HGX.out; omega)).drew
       have rY1 := rY0.drew
       obtain ⟨wY, hY⟩ : ∃ W, W = wY0.drew := ⟨_, rfl⟩
       rw [<- hY] at hly0 hliy0 rY1 ⊢
       have HLY := hide hly0; have HLIY := hide hliy0
       have HXQ : Hid (RawR wY (.agg #[.bool ys, .slice yA yn yc, .bool ys', .slice yA' yn' yc']) q (k+1)) := hide (HAE.out wY HLIY.out)
       have RXY := hide rY1
       clear hwY oo rY0 rY1 hY hly0 hliy0 RX8 HT1 k0 k1 k2 k3 kz0 kz1 kz2 kz3
       have rsg := RSG.out.later HLY.out
       have s0 := rsg.cell (i := 0) rfl; have s1_ := rsg.cell (i := 1) rfl; have s2_ := rsg.cell (i := 2) rfl; have s3_ := rsg.cell (i := 3) rfl
       have x0 := RXY.out.cell (i := 0) rfl; have x1 := RXY.out.cell (i := 1) rfl; have x2 := RXY.out.cell (i := 2) rfl; have x3 := RXY.out.cell (i := 3) rfl
       clear rsg
       go_wp2_with (first
        | ((with_reducible refine (qmul_calls _ _ _ (q) (sgq bq) (k+1) 1 HXQ.out (OwnR.raw (OwnR.later OSG.out HLY.out) (sgq_sized_ bq)) (by omega)).mono ?_); rintro e w9 ⟨v9_, rfl, o9, b9⟩; obtain ⟨s9, P9, q9, e9, P9', q9', e9', rfl, o9⟩ := o9.open_; have O9 := hide o9; clear o9; have HL9 := hide (HLY.out.trans b9); have HB9 := hide (HLIY.out.trans b9); clear b9)
        | (at_builtin; refine wpList_append_rowu rfl _ _ rfl rfl (HROW.out.later (HB9.out.alloc _)) rfl (Row.new w9 36 [.bool s9, .slice P9 q9 e9, .bool false, .slice P9' q9' e9']) (OwnR.later O9.out ((Later.refl w9).alloc _)) HLM.out (by rw [World.size_alloc]; have h1 := HL9.out.size; omega) ?_; intro v10_ w10 k1 k2 k3))
       have hbl := HROW.out.lt
       exact ⟨⟨m+1, by omega, by go_num, by rw [HTK.out]; exact k1, ((HL9.out).alloc _).grown k2 (fun q hq => (hbl q hq).1)⟩, by simp [intOf]; omega⟩
      ·skip
       obtain ⟨pp, hpp⟩ : ∃ p, (extraL P)[m - P.cost.length]? = some p := ⟨(extraL P)[m - P.cost.length]'(by have := HNV.out; rw [colV_len] at this; omega), List.getElem?_eq_getElem _⟩
       have hle : P.cost.length <= m := by omega
       obtain ⟨bv, ofv, ev, xv⟩ := hrf.cv.at1_ (colV_hi hle hpp)
       obtain ⟨br, ofr, er, xr⟩ := hrf.cr.at1_ (colR_hi hle hpp)
       obtain ⟨ba, ofa, ea, xa⟩ := hrf.ca.at1_ (colA_hi hle hpp)
       subst ev er ea
       have HTK := hide (take_more (stdRow_hi (P := P) (j := j) (b := bq) HRL.out hle hpp))
       have hm2 : m < nt := by have h1 := HNV.out; have h2 := HNR.out; rw [colV_len] at h1; rw [colR_len_] at h2; omega
       have hm3 : m < na := by have h1 := HNV.out; have h2 := HNA.out; rw [colV_len] at h1; rw [colA_len_] at h2; omega
       have h1x := one_num (extra_one pp (List.mem_of_getElem? hpp))
       have H1X := hide h1x
       have HPP := hide (extra_one pp (List.mem_of_getElem? hpp))
       have xv := Later.cell HL78.out xv; have xr := Later.cell HL78.out xr; have xa := Later.cell HL78.out xa
       clear hpp hrf h1x
       by_cases hjp : j = pp.1
       ·have t7 : ((pp.1 : Int) == (j : Int)) = true := by rw [hjp]; simp
        rw [if_pos hjp] at HTK
        clear hjp
        go_upto_region 43 with ((with_reducible refine (rone_calls _ pp.2.num H1X.out.2.1 H1X.out.2.2 pp.2 H1X.out.1).mono ?_); rintro e w12 ⟨v12_, rfl, o12, b12⟩; obtain ⟨s12, P12, q12, e12, P12', q12', e12', rfl, o12⟩ := o12.open_; have O12 := hide o12; clear o12; have r12 := RX8.out.later b12; have k0 := r12.cell (i := 0) rfl; have k1 := r12.cell (i := 1) rfl; have k2 := r12.cell (i := 2) rfl; have k3 := r12.cell (i := 3) rfl; have z0 := r12.frozen 0; have z1 := r12.frozen 1; have z2 := r12.frozen 2; have z3 := r12.frozen 3)
        obtain ⟨wY, hwY⟩ : ∃ W, W = ((((w12.setCell ⟨gx, 0, none⟩ (.bool s12)).setCell ⟨gx, 1, none⟩ (.slice P12 q12 e12)).setCell ⟨gx, 2, none⟩ (.bool false)).setCell ⟨gx, 3, none⟩ (.slice P12' q12' e12')) := ⟨_, rfl⟩
        rw [<- hwY]
        have oo : Only gx w12 wY := by rw [hwY]; exact Only.four _ _ _ _ _ _
        have rY : Row wY gx 36 [.bool s12, .slice P12 q12 e12, .bool false, .slice P12' q12' e12'] := by rw [hwY]; exact r12.four _ _ _ _
        have HLY := hide (((HLi.out.trans HL78.out).trans b12).only oo (by have := HLi.out.size; have := HGX.out; omega))
        have HLIY := hide ((HL78.out.trans b12).only oo (by have := HGX.out; omega))
        have HXQ : Hid (RawR wY (.agg #[.bool s12, .slice P12 q12 e12, .bool false, .slice P12' q12' e12']) pp.2 1) := hide (OwnR.raw (OwnR.keepU O12.out (KeepU.only oo r12 tRat_u32)) (by rcases HPP.out with e | e <;> rw [e]; exact sized_1; exact sized_m1))
        have RXY := hide rY
        clear hwY oo rY RX8 r12 k0 k1 k2 k3 z0 z1 z2 z3 xv xr xa
        have rsg := RSG.out.later HLY.out
        have s0 := rsg.cell (i := 0) rfl; have s1_ := rsg.cell (i := 1) rfl; have s2_ := rsg.cell (i := 2) rfl; have s3_ := rsg.cell (i := 3) rfl
        have x0 := RXY.out.cell (i := 0) rfl; have x1 := RXY.out.cell (i := 1) rfl; have x2 := RXY.out.cell (i := 2) rfl; have x3 := RXY.out.cell (i := 3) rfl
        clear rsg
        go_wp2_with (first
         | ((with_reducible refine (qmul_calls _ _ _ (pp.2) (sgq bq) (1) 1 HXQ.out (OwnR.raw (OwnR.later OSG.out HLY.out) (sgq_sized_ bq)) (by omega)).mono ?_); rintro e w9 ⟨v9_, rfl, o9, b9⟩; obtain ⟨s9, P9, q9, e9, P9', q9', e9', rfl, o9⟩ := o9.open_; have O9 := hide o9; clear o9; have HL9 := hide (HLY.out.trans b9); have HB9 := hide (HLIY.out.trans b9); clear b9)
         | (at_builtin; refine wpList_append_rowu rfl _ _ rfl rfl (HROW.out.later (HB9.out.alloc _)) rfl (Row.new w9 36 [.bool s9, .slice P9 q9 e9, .bool false, .slice P9' q9' e9']) (OwnR.later O9.out ((Later.refl w9).alloc _)) HLM.out (by rw [World.size_alloc]; have h1 := HL9.out.size; omega) ?_; intro v10_ w10 k1 k2 k3))
        have hbl := HROW.out.lt
        exact ⟨⟨m+1, by omega, by go_num, by rw [HTK.out]; exact k1, ((HL9.out).alloc _).grown k2 (fun q hq => (hbl q hq).1)⟩, by simp [intOf]; omega⟩
       ·have t7 : ((pp.1 : Int) == (j : Int)) = false := by rw [beq_eq_false_iff_ne]; intro h; omega
        rw [if_neg hjp] at HTK
        clear hjp
        have HLY := hide (HLi.out.trans HL78.out)
        have HLIY := HL78
        have HXQ : Hid (RawR w8 (.agg #[.bool s7, .slice P7 q7 e7, .bool false, .slice P7' q7' e7']) 0 1) := hide (OwnR.raw O8.out sized_0)
        go_upto_region 43 with fail
        clear xv xr xa
        have rsg := RSG.out.later HLY.out
        have s0 := rsg.cell (i := 0) rfl; have s1_ := rsg.cell (i := 1) rfl; have s2_ := rsg.cell (i := 2) rfl; have s3_ := rsg.cell (i := 3) rfl
        have x0 := RX8.out.cell (i := 0) rfl; have x1 := RX8.out.cell (i := 1) rfl; have x2 := RX8.out.cell (i := 2) rfl; have x3 := RX8.out.cell (i := 3) rfl
        clear rsg
        go_wp2_with (first
         | ((with_reducible refine (qmul_calls _ _ _ (0) (sgq bq) (1) 1 HXQ.out (OwnR.raw (OwnR.later OSG.out HLY.out) (sgq_sized_ bq)) (by omega)).mono ?_); rintro e w9 ⟨v9_, rfl, o9, b9⟩; obtain ⟨s9, P9, q9, e9, P9', q9', e9', rfl, o9⟩ := o9.open_; have O9 := hide o9; clear o9; have HL9 := hide (HLY.out.trans b9); have HB9 := hide (HLIY.out.trans b9); clear b9)
         | (at_builtin; refine wpList_append_rowu rfl _ _ rfl rfl (HROW.out.later (HB9.out.alloc _)) rfl (Row.new w9 36 [.bool s9, .slice P9 q9 e9, .bool false, .slice P9' q9' e9']) (OwnR.later O9.out ((Later.refl w9).alloc _)) HLM.out (by rw [World.size_alloc]; have h1 := HL9.out.size; omega) ?_; intro v10_ w10 k1 k2 k3))
        have hbl := HROW.out.lt
        exact ⟨⟨m+1, by omega, by go_num, by rw [HTK.out]; exact k1, ((HL9.out).alloc _).grown k2 (fun q hq => (hbl q hq).1)⟩, by simp [intOf]; omega⟩
     ·have hm1 : ¬ (m : Int) < nv := by omega
      have hfull : (stdRow P j arow bq).take m = stdRow P j arow bq := List.take_of_length_le (by rw [stdRow_len HRL.out]; have := HNV.out; rw [colV_len] at this; omega)
      rw [hfull] at HROW
      obtain ⟨A8, n8, c8, erv⟩ := HROW.out.form
      subst erv
      have HLwi := hide (HLwc.out.trans HLi.out)
      have rs := HR.out.later HLwi.out
      have f0 := rs.cell (i := 0) rfl; have f1 := rs.cell (i := 1) rfl; have f2 := rs.cell (i := 2) rfl; have z0 := rs.frozen 0
      have HTi := hide (HT.out.later HLwi.out)
      have HALO : Hid (∀ q, (Value.slice A6 n6 c6).ownBlock = some q -> wr0.heap.size <= q /\ q < wo.heap.size) := hide (World.ownsRow.lt HT.out.own)
      have HBLO : Hid (∀ q, (Value.slice Ab nb cb).ownBlock = some q -> wr0.heap.size <= q) := hide (fun q hq => ((HT.out.x (i := 0) rfl rfl).lt q hq).1)
      have HGNW : Hid (wo.heap.size <= gn) := hide (by rw [HGN.out]; exact HL1.out.size)
      have hsw := HSZ.out; have hwc := HLwc.out.size; have hwi := HLi.out.size
      have RS0 := hide rs
      clear hfull rs
      go_upto_region 45 with (at_builtin; refine wpList_append_tabx rfl _ _ rfl rfl (HTi.out.later ((Later.refl _).alloc _)) rfl (Row.new wi 22 [.slice A8 n8 c8]) ((HROW.out.weaken (by omega)).later ((Later.refl wi).alloc _)) (fun u hu q hq e => by have := HT.out.ltAll u hu q hq; have := (HROW.out.lt q e).1; omega) (by have h9 := HT.out.ht; rw [List.length_take] at h9; omega) (by rw [World.size_alloc]; omega) ?_; intro v11_ w11 k1 k2 k3; obtain ⟨A9, n9, c9, rfl⟩ := k1.form; have rs11 := (RS0.out.later ((Later.refl wi).alloc (Obj.cells #[Value.slice A8 n8 c8] 22))).grown k2 (fun e => by have := (HALO.out gs e.symm).1; have := HS.out.lt; omega); have f0b := rs11.cell (i := 0) rfl; have z0b := rs11.frozen 0; have HK1 := hide k1; have HK2 := hide k2; have RS11 := hide rs11; clear rs11 k1 k2 k3)
      obtain ⟨w12, hw12⟩ : ∃ W, W = w11.setCell ⟨gs, 0, none⟩ (.slice A9 n9 c9) := ⟨_, rfl⟩
      rw [<- hw12]
      have oo : Only gs w11 w12 := by rw [hw12]; exact Only.one gs w11 0 _
      have rs12 : Row w12 gs 31 [.slice A9 n9 c9, .slice Ab nb cb, .slice AC nC cC] := by rw [hw12]; exact RS11.out.set_ 0 _
      have hla := (Later.refl wi).alloc (Obj.cells #[Value.slice A8 n8 c8] 22)
      have rg12 := ((((RSG.out.later HLi.out).later hla).grown HK2.out (fun e => by have := (HALO.out gn e.symm).2; have := HGNW.out; omega))).only oo (by have := HGNW.out; have := HS.out.lt; omega)
      have hku : KeepU wc w12 := (KeepU.later (HLi.out.trans hla)).trans ((KeepU.grown HK2.out (HTi.out.later hla).own tRow_u32).trans (KeepU.only oo RS11.out (by decide)))
      have HT12 := hide (HK1.out.only oo RS11.out (by decide) (by decide) (by decide))
      have RS12 := hide rs12; have RSG12 := hide rg12; have OSG12 := hide (OwnR.keepU OSG.out hku)
      have hon12 := (((HON.out.later HLwi.out).later hla).grown HK2.out (fun b hb _ e => by have := (HALO.out b e.symm).1; have := hb.2; omega)).only oo (fun h => h.1 rfl)
      have HON12 := hide hon12
      have HOC12 := hide ((((HOC.out.later HLwi.out).later hla).grown HK2.out (fun b hb _ e => by have := (HALO.out b e.symm).1; have := hb.2; omega)).only oo (fun h => h.1.1 rfl))
      have HL12x := hide ((((HL.out.trans HLwi.out).trans hla).grown HK2.out (fun q hq => by have := (HALO.out q hq).1; have := HL0.out.size; omega)).only oo hgs0)
      have HSZ12 : Hid (wr0.heap.size <= w12.heap.size) := hide (by rw [oo.size]; have := HK2.out.size; rw [World.size_alloc] at this; omega)
      obtain ⟨b9, off9, us, uA, un, uc, us', uA', un', uc', e9, u1, u2, u3, u4, uE⟩ := hon12.now.u.at_ HBQ.out
      injection e9 with e9; injection e9 with e9 e10
      subst e9 e10
      have HUC : Hid (w12.cell? ⟨b5, off5 + j * 4, none⟩ = some (.bool us) /\ w12.cell? ⟨b5, off5 + j * 4 + 1, none⟩ = some (.slice uA un uc) /\ w12.cell? ⟨b5, off5 + j * 4 + 2, none⟩ = some (.bool us') /\ w12.cell? ⟨b5, off5 + j * 4 + 3, none⟩ = some (.slice uA' un' uc')) := hide ⟨u1, u2, u3, u4⟩
      have HUE := hide (show OwnR w12 0 (.agg #[.bool us, .slice uA un uc, .bool us', .slice uA' un' uc']) bq from uE)
      have HT1 : Hid (∀ w', Later w12 w' -> w'.cell? ⟨gs, 1, none⟩ = some (.slice Ab nb cb) /\ w'.cell? ⟨b5, off5 + j * 4, none⟩ = some (.bool us) /\ w'.cell? ⟨b5, off5 + j * 4 + 1, none⟩ = some (.slice uA un uc) /\ w'.cell? ⟨b5, off5 + j * 4 + 2, none⟩ = some (.bool us') /\ w'.cell? ⟨b5, off5 + j * 4 + 3, none⟩ = some (.slice uA' un' uc') /\ w'.cell? ⟨gn, 0, none⟩ = some (.bool ss) /\ w'.cell? ⟨gn, 1, none⟩ = some (.slice Ps ns es) /\ w'.cell? ⟨gn, 2, none⟩ = some (.bool ss') /\ w'.cell? ⟨gn, 3, none⟩ = some (.slice Ps' ns' es')) := hide fun w' hb => by
       obtain ⟨y1, y2, y3, y4⟩ := HUC.out
       exact ⟨(RS12.out.later hb).cell rfl, Later.cell hb y1, Later.cell hb y2, Later.cell hb y3, Later.cell hb y4, (RSG12.out.later hb).cell rfl, (RSG12.out.later hb).cell rfl, (RSG12.out.later hb).cell rfl, (RSG12.out.later hb).cell rfl⟩
      clear hw12 oo rs12 hla rg12 hku hon12 u1 u2 u3 u4 uE HK1 HK2 RS11 RS0 f0 f1 f2 z0 f0b z0b HROW HTi hsw hwc hwi
      have hmx : Tryz.prog.follows .mixedOrders = true := by kernel_rfl
      refine wp_region_N (fun w' => w'.cell? ⟨gs, 1, none⟩ = some (.slice Ab nb cb) /\ w'.cell? ⟨b5, off5 + j * 4, none⟩ = some (.bool us) /\ w'.cell? ⟨b5, off5 + j * 4 + 1, none⟩ = some (.slice uA un uc) /\ w'.cell? ⟨b5, off5 + j * 4 + 2, none⟩ = some (.bool us') /\ w'.cell? ⟨b5, off5 + j * 4 + 3, none⟩ = some (.slice uA' un' uc') /\ w'.cell? ⟨gn, 0, none⟩ = some (.bool ss) /\ w'.cell? ⟨gn, 1, none⟩ = some (.slice Ps ns es) /\ w'.cell? ⟨gn, 2, none⟩ = some (.bool ss') /\ w'.cell? ⟨gn, 3, none⟩ = some (.slice Ps' ns' es')) [11] hmx (HT1.out _ lt_) (fun hHeld => ?_)
      refine tkB 201 0 ?_
      refine tkB 202 1 ?_
      refine tkB 203 2 ?_
      refine tkB 204 3 ?_
      refine tkB 205 4 ?_
      refine tkB 206 5 ?_
      refine tkB 207 6 ?_
      refine wpAnyN_ready (rs := [7]) (by kernel_rfl) (by simp) ?_
      refine AllReadyN.held rfl (by rfl) (fun K hK => ?_) AllReadyN.nil
      go_simp
      refine (qmul_calls _ _ _ bq (sgq bq) 200000 1 (OwnR.raw (OwnR.later HUE.out lt_) HBS.out) (OwnR.raw (OwnR.later OSG12.out lt_) (sgq_sized_ bq)) (by omega)).mono ?_
      rintro e w15 ⟨v15_, rfl, o15, b15⟩
      obtain ⟨s15, P15, q15, e15, P15', q15', e15', rfl, o15⟩ := o15.open_; have O15 := hide o15; clear o15
      have l15 : Later w12 w15 := Later.trans lt_ b15
      refine hK.out _ _ ?_ (fun hHeld => ?_)
      ·exact HT1.out _ lt_
      clear hK K
      try simp only [Act.put, s1_, s2_, s3_]
      refine wpAnyN_ready (rs := [8]) (by kernel_rfl) (by simp) ?_
      refine AllReadyN.held rfl (by rfl) (fun K hK => ?_) AllReadyN.nil
      go_simp
      refine hK.out _ _ ?_ (fun hHeld => ?_)
      ·exact HT1.out _ lt_
      clear hK K
      try simp only [Act.put, s1_, s2_, s3_]
      refine wpAnyN_ready (rs := [9]) (by kernel_rfl) (by simp) ?_
      refine AllReadyN.held rfl (by rfl) (fun K hK => ?_) AllReadyN.nil
      refine wp_append_loose _ _ rfl 0 rfl (HT12.out.later (l15.alloc _)) rfl rfl rfl (Row.new w15 36 [.bool s15, .slice P15 q15 e15, .bool false, .slice P15' q15' e15']) (OwnR.later O15.out ((Later.refl w15).alloc _)) (by rw [List.length_take]; omega) (by rw [World.size_alloc]; have h1 := HSZ12.out; have h2 := l15.size; omega) ?_
      intro v16_ w16 k1 k2 k3
      obtain ⟨A17, n17, c17, rfl⟩ := (k1.x (i := 0) rfl rfl).form
      have hbl := HT.out.ltAll (.slice Ab nb cb) (List.mem_append_left _ (List.mem_singleton.2 rfl))
      have hbg := HBLO.out
      have rs16 := (RS12.out.later (l15.alloc (Obj.cells #[Value.bool s15, Value.slice P15 q15 e15, Value.bool false, Value.slice P15' q15' e15'] 36))).grown k2 (fun e => by have := hbg gs e.symm; have := HS.out.lt; omega)
      have rg16 := (RSG12.out.later (l15.alloc (Obj.cells #[Value.bool s15, Value.slice P15 q15 e15, Value.bool false, Value.slice P15' q15' e15'] 36))).grown k2 (fun e => by have := hbl gn e.symm; have := HGNW.out; omega)
      have hl15 := l15.alloc (Obj.cells #[Value.bool s15, Value.slice P15 q15 e15, Value.bool false, Value.slice P15' q15' e15'] 36)
      have hne5 : some b5 ≠ (Value.slice Ab nb cb).ownBlock := fun e => by have := hbg b5 e.symm; have := HB5.out; omega
      obtain ⟨y1, y2, y3, y4⟩ := HUC.out
      have HT3 : Hid (w16.cell? ⟨gs, 1, none⟩ = some (.slice Ab nb cb) /\ w16.cell? ⟨b5, off5 + j * 4, none⟩ = some (.bool us) /\ w16.cell? ⟨b5, off5 + j * 4 + 1, none⟩ = some (.slice uA un uc) /\ w16.cell? ⟨b5, off5 + j * 4 + 2, none⟩ = some (.bool us') /\ w16.cell? ⟨b5, off5 + j * 4 + 3, none⟩ = some (.slice uA' un' uc') /\ w16.cell? ⟨gn, 0, none⟩ = some (.bool ss) /\ w16.cell? ⟨gn, 1, none⟩ = some (.slice Ps ns es) /\ w16.cell? ⟨gn, 2, none⟩ = some (.bool ss') /\ w16.cell? ⟨gn, 3, none⟩ = some (.slice Ps' ns' es')) := hide ⟨rs16.cell rfl, grown_cell k2 (Later.cell hl15 y1) hne5, grown_cell k2 (Later.cell hl15 y2) hne5, grown_cell k2 (Later.cell hl15 y3) hne5, grown_cell k2 (Later.cell hl15 y4) hne5, rg16.cell rfl, rg16.cell rfl, rg16.cell rfl, rg16.cell rfl⟩
      have f1 := rs16.cell (i := 1) rfl; have z1 := rs16.frozen 1
      have HON16 := hide (((HON12.out.later hl15).grown k2 (fun b hb _ e => by have := hbg b e.symm; have := hb.2; omega)))
      have HOC16 := hide (((HOC12.out.later hl15).grown k2 (fun b hb _ e => by have := hbg b e.symm; have := hb.2; omega)))
      have HL16 := hide ((HL12x.out.trans hl15).grown k2 (fun q hq => by have := hbg q hq; have := HL0.out.size; omega))
      have HK1 := hide k1; have RS16 := hide rs16
      have HSZ16 : Hid (wr0.heap.size <= w16.heap.size) := hide (by have h1 := k2.size; rw [World.size_alloc] at h1; have h2 := HSZ12.out; have h3 := l15.size; omega)
      clear k1 k2 k3 hbl hbg rs16 rg16 hl15 hne5 y1 y2 y3 y4
      refine hK.out _ _ ?_ (fun hHeld => ?_)
      ·exact HT3.out
      clear hK K
      try simp only [Act.put, s1_, s2_, s3_]
      refine tkB 211 10 ?_
      refine wpAnyN_ready (rs := [11]) (by kernel_rfl) (by simp) ?_
      refine AllReadyN.free rfl (by rfl) (by kernel_rfl) (fun K hK => ?_) AllReadyN.nil
      go_simp
      refine hK.out _ _ ?_
      clear hK K
      try simp only [Act.put, s1_, s2_, s3_]
      refine wpAnyN_done (by kernel_rfl) ?_ _
      clear hHeld
      obtain ⟨wE, hwE⟩ : ∃ W, W = w16.setCell ⟨gs, 1, none⟩ (.slice A17 n17 c17) := ⟨_, rfl⟩
      rw [<- hwE]
      have oo : Only gs w16 wE := by rw [hwE]; exact Only.one gs w16 1 _
      have rE : Row wE gs 31 [.slice A9 n9 c9, .slice A17 n17 c17, .slice AC nC cC] := by rw [hwE]; exact RS16.out.set_ 1 _
      have RE := hide rE
      have HTE := hide (HK1.out.only oo RS16.out (by decide) (by decide) (by decide))
      have HONE := hide (HON16.out.only oo (fun h => h.1 rfl)); have HOCE := hide (HOC16.out.only oo (fun h => h.1.1 rfl))
      have HLE := hide (HL16.out.only oo hgs0)
      have HSE : Hid (wr0.heap.size <= wE.heap.size) := hide (by rw [oo.size]; exact HSZ16.out)
      clear hwE oo rE f1 z1 HT1 HT3
      go_wp2_with fail
      exact ⟨⟨j+1, by omega, by go_num, A9, n9, c9, A17, n17, c17, _, RE.out, by rw [HROWD.out, HBD.out]; exact HTE.out, HONE.out, HOCE.out, HLE.out, HSE.out⟩, by simp [intOf]; omega⟩
  ·have hj1 : ¬ (j : Int) < nT := by omega
   have hA : (stdA P).take j = stdA P := List.take_of_length_le (by rw [stdA_len]; have := HNT.out; rw [baseA_len] at this; omega)
   have hB : (stdB P).take j = stdB P := List.take_of_length_le (by rw [stdB_len]; have := HNT.out; rw [baseA_len] at this; omega)
   rw [hA, hB] at HT
   have hrf := HON.out.now
   have d0 := hrf.b0.cell (i := 0) rfl; have d1 := hrf.b0.cell (i := 1) rfl; have d2 := hrf.b0.cell (i := 2) rfl; have d3 := hrf.b0.cell (i := 3) rfl; have d4 := hrf.b0.cell (i := 4) rfl
   have HG2 := hide hrf.b2; have HG3 := hide hrf.b3
   have HG3lt : Hid (g3 < wr0.heap.size) := hide HF.out.now.b3.lt
   have HDS : Hid ((P.cost.length + 1) * (k + k + 4) <= 20000000) := hide (by have := Nat.mul_le_mul (show P.cost.length + 1 <= 25 by have := HP.out.n24; omega) (show k + k + 4 <= 2004 by omega); omega)
   clear hA hB hrf
   go_wp2_with fail
   refine (qdot_calls _ _ _ P.cost P.lo k k (H.out.cost.later ERaw.later HL.out) (H.out.lo.later ERaw.later HL.out) HP.out.lo.symm HDS.out).mono ?_
   rintro e w40 ⟨v40_, ok40, rfl, ⟨o40, rfl⟩, b40⟩
   obtain ⟨s40, P40, q40, e40, P40', q40', e40', rfl, o40⟩ := o40.open_; have O40 := hide o40; clear o40
   clear d0 d1 d2 d3 d4
   go_upto_region 47 with fail
   obtain ⟨wz, hwz⟩ : ∃ wz, wz = w40.alloc (Obj.cells #[Value.bool s40, Value.slice P40 q40 e40, Value.bool false, Value.slice P40' q40' e40'] 36) := ⟨_, rfl⟩
   obtain ⟨gr, hgr⟩ : ∃ gr, gr = w40.heap.size := ⟨_, rfl⟩
   have bwz : Later w40 wz := by rw [hwz]; exact (Later.refl _).alloc _
   have rgr : Row wz gr 36 [.bool s40, .slice P40 q40 e40, .bool false, .slice P40' q40' e40'] := by rw [hwz, hgr]; exact Row.new _ _ _
   rw [<- hwz, <- hgr]
   have hlz := b40.trans bwz
   have RSZ := hide (HR.out.later hlz); have RR := hide rgr; have RG2 := hide (HG2.out.later hlz); have RG3 := hide (HG3.out.later hlz); have OR := hide (OwnR.later O40.out bwz); have HLZ := hide (HL.out.trans hlz)
   have HTZ := hide (HT.out.later hlz); have HOZ := hide (HOC.out.later hlz)
   have hgrw : wo.heap.size <= gr := by rw [hgr]; exact b40.size
   have HNE2 : Hid (gs ≠ g2) := hide hg2s
   have HNE2r : Hid (gr ≠ g2) := hide (by have := HG2.out.lt; omega)
   have HNE3 : Hid (gs ≠ g3) := hide (fun e => by
    have h1 := HG3.out; have h2 := HR.out; unfold Row at h1 h2; rw [<- e] at h1; rw [h1] at h2; injection h2 with h2; injection h2 with _ h2 _; exact absurd h2 (by decide))
   have HNE3r : Hid (gr ≠ g3) := hide (by have := HG3.out.lt; omega)
   have HNE23 : Hid (g3 ≠ g2) := hide (fun e => by
    have h1 := HG3.out; have h2 := HG2.out; unfold Row at h1 h2; rw [e] at h1; rw [h1] at h2; injection h2 with h2; injection h2 with _ h2 _; exact absurd h2 (by decide))
   have k0 := RG2.out.cell (i := 0) rfl; have k1 := RG2.out.cell (i := 1) rfl; have k2 := RG2.out.cell (i := 2) rfl; have kz0 := RG2.out.frozen 0; have kz1 := RG2.out.frozen 1; have kz2 := RG2.out.frozen 2
   have HT1 : Hid (∀ w', Later wz w' -> w'.cell? ⟨gs, 0, none⟩ = some (.slice A6 n6 c6) /\ w'.cell? ⟨gs, 1, none⟩ = some (.slice Ab nb cb) /\ w'.cell? ⟨gs, 2, none⟩ = some (.slice AC nC cC) /\ w'.cell? ⟨gr, 0, none⟩ = some (.bool s40) /\ w'.cell? ⟨gr, 1, none⟩ = some (.slice P40 q40 e40) /\ w'.cell? ⟨gr, 2, none⟩ = some (.bool false) /\ w'.cell? ⟨gr, 3, none⟩ = some (.slice P40' q40' e40')) := hide fun w' hb => ⟨(RSZ.out.later hb).cell rfl, (RSZ.out.later hb).cell rfl, (RSZ.out.later hb).cell rfl, (RR.out.later hb).cell rfl, (RR.out.later hb).cell rfl, (RR.out.later hb).cell rfl, (RR.out.later hb).cell rfl⟩
   clear hwz hgr rgr bwz b40 O40 hlz HR HG2 HG3 HT HOC HON
   have hmx : Tryz.prog.follows .mixedOrders = true := by kernel_rfl
   refine wp_region_N (fun w' => w'.cell? ⟨gs, 0, none⟩ = some (.slice A6 n6 c6) /\ w'.cell? ⟨gs, 1, none⟩ = some (.slice Ab nb cb) /\ w'.cell? ⟨gs, 2, none⟩ = some (.slice AC nC cC) /\ w'.cell? ⟨gr, 0, none⟩ = some (.bool s40) /\ w'.cell? ⟨gr, 1, none⟩ = some (.slice P40 q40 e40) /\ w'.cell? ⟨gr, 2, none⟩ = some (.bool false) /\ w'.cell? ⟨gr, 3, none⟩ = some (.slice P40' q40' e40')) [] hmx (HT1.out _ lt_) (fun hHeld => ?_)
   refine tkB 220 0 ?_
   refine tkB 221 1 ?_
   refine wpAnyN_ready (rs := [2]) (by kernel_rfl) (by simp) ?_
   refine AllReadyN.held rfl (by rfl) (fun K hK => ?_) AllReadyN.nil
   go_simp
   obtain ⟨wa0, hwa⟩ : ∃ W, W = (((wz.setCell ⟨g2, 0, none⟩ (.slice A6 n6 c6)).setCell ⟨g2, 1, none⟩ (.slice Ab nb cb)).setCell ⟨g2, 2, none⟩ (.slice AC nC cC)) := ⟨_, rfl⟩
   rw [<- hwa]
   have oa : Only g2 wz wa0 := by rw [hwa]; exact ((Only.one g2 wz 0 _).set 1 _).set 2 _
   have ra2 : Row wa0 g2 31 [.slice A6 n6 c6, .slice Ab nb cb, .slice AC nC cC] := by rw [hwa]; exact ((RG2.out.set_ 0 (.slice A6 n6 c6)).set_ 1 (.slice Ab nb cb)).set_ 2 (.slice AC nC cC)
   have hoa := oa; have rga := RSZ.out.only oa HNE2.out; have rra := RR.out.only oa HNE2r.out; have r3a := RG3.out.only oa HNE23.out
   have HT2 : Hid (wa0.cell? ⟨gs, 0, none⟩ = some (.slice A6 n6 c6) /\ wa0.cell? ⟨gs, 1, none⟩ = some (.slice Ab nb cb) /\ wa0.cell? ⟨gs, 2, none⟩ = some (.slice AC nC cC) /\ wa0.cell? ⟨gr, 0, none⟩ = some (.bool s40) /\ wa0.cell? ⟨gr, 1, none⟩ = some (.slice P40 q40 e40) /\ wa0.cell? ⟨gr, 2, none⟩ = some (.bool false) /\ wa0.cell? ⟨gr, 3, none⟩ = some (.slice P40' q40' e40')) := hide ⟨rga.cell rfl, rga.cell rfl, rga.cell rfl, rra.cell rfl, rra.cell rfl, rra.cell rfl, rra.cell rfl⟩
   have m0 := r3a.cell (i := 0) rfl; have m1 := r3a.cell (i := 1) rfl; have m2 := r3a.cell (i := 2) rfl; have m3 := r3a.cell (i := 3) rfl
   have mz0 := r3a.frozen 0; have mz1 := r3a.frozen 1; have mz2 := r3a.frozen 2; have mz3 := r3a.frozen 3
   have OA := hide oa; have RA2 := hide ra2; have RA3 := hide r3a
   clear hwa oa ra2 hoa rga rra r3a
   refine hK.out _ _ ?_ (fun hHeld => ?_)
   ·exact HT2.out
   clear hK K
   try simp only [Act.put, s1_, s2_, s3_]
   refine wpAnyN_ready (rs := [3]) (by kernel_rfl) (by simp) ?_
   refine AllReadyN.held rfl (by rfl) (fun K hK => ?_) AllReadyN.nil
   go_simp
   obtain ⟨wb0, hwb⟩ : ∃ W, W = ((((wa0.setCell ⟨g3, 0, none⟩ (.bool s40)).setCell ⟨g3, 1, none⟩ (.slice P40 q40 e40)).setCell ⟨g3, 2, none⟩ (.bool false)).setCell ⟨g3, 3, none⟩ (.slice P40' q40' e40')) := ⟨_, rfl⟩
   rw [<- hwb]
   have ob : Only g3 wa0 wb0 := by rw [hwb]; exact Only.four _ _ _ _ _ _
   have rb3 : Row wb0 g3 36 [.bool s40, .slice P40 q40 e40, .bool false, .slice P40' q40' e40'] := by rw [hwb]; exact RA3.out.four _ _ _ _
   have rgb := (RSZ.out.only OA.out HNE2.out).only ob HNE3.out; have rrb := (RR.out.only OA.out HNE2r.out).only ob HNE3r.out
   have HT3 : Hid (wb0.cell? ⟨gs, 0, none⟩ = some (.slice A6 n6 c6) /\ wb0.cell? ⟨gs, 1, none⟩ = some (.slice Ab nb cb) /\ wb0.cell? ⟨gs, 2, none⟩ = some (.slice AC nC cC) /\ wb0.cell? ⟨gr, 0, none⟩ = some (.bool s40) /\ wb0.cell? ⟨gr, 1, none⟩ = some (.slice P40 q40 e40) /\ wb0.cell? ⟨gr, 2, none⟩ = some (.bool false) /\ wb0.cell? ⟨gr, 3, none⟩ = some (.slice P40' q40' e40')) := hide ⟨rgb.cell rfl, rgb.cell rfl, rgb.cell rfl, rrb.cell rfl, rrb.cell rfl, rrb.cell rfl, rrb.cell rfl⟩
   have RB2 := hide (RA2.out.only ob HNE23.out.symm); have OB := hide ob; have RB3 := hide rb3
   clear hwb ob rb3 rgb rrb
   refine hK.out _ _ ?_ (fun hHeld => ?_)
   ·exact HT3.out
   clear hK K
   try simp only [Act.put, s1_, s2_, s3_]
   refine tkB 4 4 ?_
   refine wpAnyN_done (by kernel_rfl) ?_ _
   clear hHeld HT1 HT2 HT3 m0 m1 m2 m3 mz0 mz1 mz2 mz3
   go_wp2_with fail
   have hlt3 := HG3lt.out
   refine HQ.out _ _ _ _ _ _ _ _ _ _ _ _ rfl rfl rfl rfl RB2.out.drew RB3.out.drew ?_ ?_ ?_ ?_ ?_
   ·exact (((HTZ.out.only OA.out RG2.out (by decide) (by decide) (by decide)).only_low OB.out RA3.out (by decide) hlt3).reads).later EOwn.later (Later.refl _).drew
   ·exact (RowU.rats (TabX.x ((HTZ.out.only OA.out RG2.out (by decide) (by decide) (by decide)).only_low OB.out RA3.out (by decide) hlt3) (i := 0) rfl rfl)).later EOwn.later (Later.refl _).drew
   ·exact (((HOZ.out.only OA.out (fun h => h.1.2.1 rfl)).only OB.out (fun h => h.1.2.2 rfl)).now).later EOwn.later (Later.refl _).drew
   ·exact OwnR.later (OwnR.keepU OR.out ((KeepU.only OA.out RG2.out (by decide)).trans (KeepU.only OB.out RA3.out (by decide)))) (Later.refl _).drew
   ·exact ((HLZ.out.only OA.out hg2).only OB.out hg3).drew
end Go.Proofs.YtfokplidiboabaaGreat
