/- Problems: Standard (the reference): the rows, and what they come to. -/
import Derived.Test.YtfokplidiboabaaGreatS27
import Derived.Test.YtfokplidiboabaaGreatS8
import Derived.Test.YtfokplidiboabaaGreatS15
import Derived.Test.YtfokplidiboabaaGreatS18
import Derived.Test.YtfokplidiboabaaGreatS10
set_option linter.unusedVariables false
set_option linter.unusedSimpArgs false
set_option maxRecDepth 100000
namespace Go.Proofs.YtfokplidiboabaaGreat
open Go.RowKit Go.Shelf
attribute [local go_sem ↓] Go.wp_at_zero Go.wp_at_succ
theorem OutRats.putP {E : Elem} {P : Nat -> Prop} {w : World} {lo g cap n a i : Nat} {l : List Rat} {q : Rat} {s s' : Bool} {A A' : Option Addr} {m c m' c' : Nat} (h : OutRats E w P lo (.slice (some ⟨g, 0, none⟩) n cap) l) (hi : i < l.length) (ha : a = i * 4) (hq : On w (fun b => P b /\ some b ≠ some g) (fun W => E W (.agg #[.bool s, .slice A m c, .bool s', .slice A' m' c']) q)) :
 OutRats E ((((w.setCell ⟨g, a, none⟩ (.bool s)).setCell ⟨g, a + 1, none⟩ (.slice A m c)).setCell ⟨g, a + 2, none⟩ (.bool s')).setCell ⟨g, a + 3, none⟩ (.slice A' m' c')) P lo (.slice (some ⟨g, 0, none⟩) n cap) (l.set i q) := by
 subst ha
 obtain ⟨es, h1, ⟨k1, k2⟩, h3, h4⟩ := h
 rcases k2 with ⟨e, -⟩ | ⟨g', cap', cur, e, hb, hg, hc, hmx, hs, ht⟩
 ·cases e
 injection e with e1 e2 e3
 injection e1 with e1; injection e1 with e1
 subst e1 e2 e3
 obtain ⟨W, hW⟩ : ∃ W, W = ((((w.setCell ⟨g, i * 4, none⟩ (.bool s)).setCell ⟨g, i * 4 + 1, none⟩ (.slice A m c)).setCell ⟨g, i * 4 + 2, none⟩ (.bool s')).setCell ⟨g, i * 4 + 3, none⟩ (.slice A' m' c')) := ⟨_, rfl⟩
 have r0 : Row w g 36 cur.toList := hg
 have r1 := (((r0.set_ (i * 4) (.bool s)).set_ (i * 4 + 1) (.slice A m c)).set_ (i * 4 + 2) (.bool s')).set_ (i * 4 + 3) (.slice A' m' c')
 have oo : Only g w W := by rw [hW]; exact (((Only.one g w _ _).set _ _).set _ _).set _ _
 rw [<- hW] at r1 ⊢
 clear hW
 refine ⟨es.set i (s, .slice A m c, s', .slice A' m' c'), by rw [List.length_set, List.length_set]; exact h1, ⟨?_, .inr ⟨g, cap, ((((cur.toList.set (i * 4) (.bool s)).set (i * 4 + 1) (.slice A m c)).set (i * 4 + 2) (.bool s')).set (i * 4 + 3) (.slice A' m' c')).toArray, by rw [List.length_set], hb, r1, by rw [List.length_set]; exact hc, hmx, ?_, ?_⟩⟩, ?_, ?_⟩
 ·have := f4_set es i (s, .slice A m c, s', .slice A' m' c') (by omega)
  show ((es.set i (s, Value.slice A m c, s', Value.slice A' m' c')).flatMap f4).length = _
  rw [this, List.length_set, List.length_set, List.length_set, List.length_set, List.length_set]; exact k1
 ·simpa using hs
 ·have := f4_set es i (s, .slice A m c, s', .slice A' m' c') (by omega)
  show List.take _ _ = (es.set i (s, Value.slice A m c, s', Value.slice A' m' c')).flatMap f4
  rw [this, List.length_set]
  simp only [List.toList_toArray, List.take_set, ht]
  rfl
 ·intro e he
  rcases List.mem_or_eq_of_mem_set he with he | rfl
  ·exact h3 e he
  ·exact ⟨⟨_, _, _, rfl⟩, ⟨_, _, _, rfl⟩⟩
 ·have hq2 : On w (fun b => P b /\ some b ≠ (Value.slice (some ⟨g, 0, none⟩) l.length cap).ownBlock) (fun W => E W (.agg #[.bool s, .slice A m c, .bool s', .slice A' m' c']) q) := hq
  have h5 := (h4.and hq2).map (T' := fun W => ∀ (j : Nat) (e : Bool × Value × Bool × Value) (x : Rat), (es.set i (s, .slice A m c, s', .slice A' m' c'))[j]? = some e -> (l.set i q)[j]? = some x -> E W (.agg #[.bool e.1, e.2.1, .bool e.2.2.1, e.2.2.2]) x) fun W hW j e x he hx => by
   by_cases hj : j = i
   ·subst hj
    rw [List.getElem?_set_self (by omega)] at he
    rw [List.getElem?_set_self hi] at hx
    injection he with he; injection hx with hx
    subst he hx; exact hW.2
   ·rw [List.getElem?_set_ne (Ne.symm hj)] at he hx
    exact hW.1 j e x he hx
  obtain ⟨F, f1, f2⟩ := h5
  exact ⟨F, fun b hb => ⟨(f1 b hb).1, by rw [oo.size]; exact (f1 b hb).2⟩, fun X hX => f2 X fun b hb => (hX b hb).trans (oo.block b (fun e => (f1 b hb).1.2 (by rw [e]; rfl)))⟩
structure BS (w : World) (P : PLp) (g0 g2 g3 gs lo : Nat) (bpl : List Value) (vv vr va vC : Value) : Prop where
 b0 : Row w g0 26 bpl
 b2 : Row w g2 31 [.slice none 0 0, .slice none 0 0, .slice none 0 0]
 b3 : Row w g3 36 [.bool false, .slice none 0 0, .bool false, .slice none 0 0]
 s : Row w gs 31 [.slice none 0 0, .slice none 0 0, vC]
 cols : On w (fun b => b ≠ gs) (fun W => Sq 1 iCells W vv (colV P) /\ Sq 1 iCells W vr (colR P) /\ Sq 1 iCells W va (colA P))
 c : RowU w lo vC (stdC P)
 l2 : g2 < lo
 l3 : g3 < lo
 ls : gs < lo
theorem BS.later {w w' : World} {P : PLp} {g0 g2 g3 gs lo : Nat} {bpl : List Value} {vv vr va vC : Value} (h : BS w P g0 g2 g3 gs lo bpl vv vr va vC) (hb : Later w w') : BS w' P g0 g2 g3 gs lo bpl vv vr va vC :=
 ⟨h.b0.later hb, h.b2.later hb, h.b3.later hb, h.s.later hb, h.cols.later hb, h.c.later hb, h.l2, h.l3, h.ls⟩
structure RR (w : World) (k gs lo : Nat) (tv uv : Value) (t : List (List Rat)) (l : List Rat) : Prop where
 t : OutTab (ERaw (k+1)) w (fun b => some b ≠ uv.ownBlock /\ b ≠ gs) lo tv t
 u : RowU w lo uv l
theorem RR.later {w w' : World} {k gs lo : Nat} {tv uv : Value} {t : List (List Rat)} {l : List Rat} (h : RR w k gs lo tv uv t l) (hb : Later w w') : RR w' k gs lo tv uv t l := ⟨h.t.later hb, h.u.later hb⟩
theorem RR.nil (w : World) (k gs lo : Nat) : RR w k gs lo (.slice none 0 0) (.slice none 0 0) [] [] := ⟨OutTab.nil _ _ _ _, RowU.nil _ _⟩
theorem RR.growT {w w' : World} {k gs lo : Nat} {tv tv' uv : Value} {t t' : List (List Rat)} {l : List Rat} (h : RR w k gs lo tv uv t l) (k1 : OutTab (ERaw (k+1)) w' (fun b => some b ≠ uv.ownBlock /\ b ≠ gs) lo tv' t') (k2 : w.grownBy w' tv.ownBlock) : RR w' k gs lo tv' uv t' l := by
 obtain ⟨es, -, hown, -⟩ := id h.t
 exact ⟨k1, h.u.keep (KeepU.grown k2 hown tRow_u32) fun g hg => k2.block g (h.u.lt g hg).2 (rats_tab_apart h.u h.t g hg)⟩
theorem RR.growU {w w' : World} {k gs lo : Nat} {tv uv uv' : Value} {t : List (List Rat)} {l l' : List Rat} (h : RR w k gs lo tv uv t l) (k1 : RowU w' lo uv' l') (k2 : w.grownBy w' uv.ownBlock) (k3 : uv'.ownBlock = uv.ownBlock ∨ uv'.ownBlock = some w.heap.size) : RR w' k gs lo tv uv' t l' := by
 refine ⟨h.t.beside k2 (fun q hq e => rats_tab_apart h.u h.t q e.symm hq.symm) fun b hb hlt => ⟨hb.1, ?_, hb.2⟩, k1⟩
 rcases k3 with e | e
 ·rw [e]; exact hb.1
 ·rw [e]; intro e2; injection e2 with e2; omega
theorem On.row_ {w : World} {g gs : Nat} {t : TypeId} {cs : List Value} (h : Row w g t cs) (hg : g ≠ gs) : On w (fun b => b ≠ gs) (fun W => Row W g t cs) := On.of_row h hg fun W h => h
theorem onRF {w wD : World} {P : PLp} {k g0 g2 g3 gs lo lo2 : Nat} {bpl : List Value} {vv vr va vC tv uv : Value} (h : BS w P g0 g2 g3 gs lo bpl vv vr va vC) (hr : RR wD k gs lo2 tv uv (baseA P) (baseB P)) (hb : Later w wD) (hg2 : gs ≠ g2) (hlo : gs < lo2) :
 On wD (fun b => b ≠ gs) (fun W => RF W P k g0 g2 g3 bpl vv vr va tv uv) := by
 have h' := h.later hb
 have e0 : g0 ≠ gs := fun e => by
  have h1 := h'.b0; have h2 := h'.s; unfold Row at h1 h2; rw [e, h2] at h1; injection h1 with h1; injection h1 with _ h1 _; exact absurd h1 (by decide)
 have e3 : g3 ≠ gs := fun e => by
  have h1 := h'.b3; have h2 := h'.s; unfold Row at h1 h2; rw [e, h2] at h1; injection h1 with h1; injection h1 with _ h1 _; exact absurd h1 (by decide)
 have ht : On wD (fun b => b ≠ gs) (fun W => Tab (ERaw (k+1)) W tv (baseA P)) := On.mono hr.t.tab fun b hb _ => by
  rcases hb with hb | hb
  ·exact hb.2
  ·omega
 have hu : On wD (fun b => b ≠ gs) (fun W => Rats EOwn W uv (baseB P)) := On.mono (OutRats.rats hr.u) fun b hb _ => by
  rcases hb with hb | hb
  ·exact hb.ne h'.s (by decide)
  ·omega
 exact ((On.row_ h'.b0 e0).and ((On.row_ h'.b2 (Ne.symm hg2)).and ((On.row_ h'.b3 e3).and (h'.cols.and (ht.and hu))))).map fun W hW => ⟨hW.1, hW.2.1, hW.2.2.1, hW.2.2.2.1.1, hW.2.2.2.1.2.1, hW.2.2.2.1.2.2, hW.2.2.2.2.1, hW.2.2.2.2.2⟩
theorem onC {w : World} {P : PLp} {g0 g2 g3 gs lo : Nat} {bpl : List Value} {vv vr va vC : Value} (h : BS w P g0 g2 g3 gs lo bpl vv vr va vC) : On w (fun b => b ≠ gs /\ b ≠ g2 /\ b ≠ g3) (fun W => Rats EOwn W vC (stdC P)) :=
 On.mono (OutRats.rats h.c) fun b hb _ => by
  have h1 := h.l2; have h2 := h.l3; have h3 := h.ls
  rcases hb with hb | hb
  ·exact ⟨hb.ne h.s (by decide), hb.ne h.b2 (by decide), hb.ne h.b3 tRat_u32⟩
  ·exact ⟨by omega, by omega, by omega⟩
set_option maxHeartbeats 32000000 in
theorem rstd_C (w0 wB wr0 : World) (A1 A2 A3 A4 A5 : Option Addr) (n1 n2 n3 n4 n5 c1 c2 c3 c4 c5 : Nat) (k : Nat) (P : PLp) (h : LpIn w0 (.slice A1 n1 c1) (.slice A2 n2 c2) (.slice A3 n3 c3) (.slice A4 n4 c4) (.slice A5 n5 c5) k P) (hP : LpP P)
 (g0 g2 g3 gs lo : Nat) (Av At Aa AC : Option Addr) (nv nt na nC cv ct ca cC : Nat) (hL : Later w0 wB) (hB : BS wB P g0 g2 g3 gs lo [.slice A1 n1 c1, .slice A2 n2 c2, .slice A3 n3 c3, .slice A4 n4 c4, .slice A5 n5 c5] (.slice Av nv cv) (.slice At nt ct) (.slice Aa na ca) (.slice AC nC cC)) (tv0 uv0 : Value) (hR : RR wr0 k gs wB.heap.size tv0 uv0 (P.rows.map (·.coef)) (P.rows.map fun r => r.rhs - dotL r.coef P.lo)) (hLB : Later wB wr0)
 (hg2 : w0.heap.size <= g2) (hg3 : w0.heap.size <= g3) (hgs0 : w0.heap.size <= gs) (hg2s : gs ≠ g2) (ds : List Deferred) (v0 v9 v10 v13 v14 v15 v16 v17 v18 v19 v20 v21 v22 v23 v24 v25 v26 v27 v28 v29 v30 v31 v32 v33 v34 v35 v36 v37 v38 v39 v40 v41 v42 v43 v44 v45 v46 v47 v48 v49 v50 v51 v52 v53 v54 v55 v56 v57 v58 v59 v60 v61 v62 v63 v64 v65 v66 v67 v68 v69 v70 v71 v72 v73 v74 v75 v76 v77 v78 v79 v80 v81 v82 v83 v84 v85 v86 v87 v88 v89 v90 v91 v92 v93 v94 v95 v96 v97 v98 v99 v100 v101 v102 v103 v104 v105 v106 v107 v108 v109 v110 v111 v112 v113 v114 v115 v116 v117 v118 v119 v120 v121 v122 v123 v124 v125 v126 v127 v128 v129 v130 v131 v132 v133 v134 v135 v136 v137 v138 v139 v140 v141 v142 v143 v144 v145 v146 v147 v148 v149 v150 v151 v152 v153 v154 v155 v156 v157 v158 v159 v160 v161 v162 v163 v164 v165 v166 v167 v168 v169 v170 v171 v172 v173 v174 v175 v176 v177 v178 v179 v180 v181 v182 v183 v184 v185 v186 v187 v188 v189 v190 v191 v192 v193 v194 v195 v196 v197 v198 v199 v200 v201 v202 v203 v204 v205 v206 v207 v208 v209 v210 v211 v212 v213 v214 v215 v216 v217 v218 v219 v220 v221 : Value) (R : Act -> World -> Prop)
 (hQ : ∀ (a' : Act) (w' : World) (vA vB : Value) (s1 s2 : Bool) (P1 P2 : Option Addr) (q1 q2 e1 e2 : Nat), a'.defers = ds -> a'.tmps[2]?.getD undef = .pointer (some ⟨g2, 0, none⟩) -> a'.tmps[3]?.getD undef = .pointer (some ⟨g3, 0, none⟩) -> a'.tmps[4]?.getD undef = .int .i64 0 ->
  Row w' g2 31 [vA, vB, .slice AC nC cC] -> Row w' g3 36 [.bool s1, .slice P1 q1 e1, .bool s2, .slice P2 q2 e2] -> Tab EOwn w' vA (stdA P) -> Rats EOwn w' vB (stdB P) -> Rats EOwn w' (.slice AC nC cC) (stdC P) -> OwnR w' 0 (.agg #[.bool s1, .slice P1 q1 e1, .bool s2, .slice P2 q2 e2]) (restV P) -> Later w0 w' -> R a' w') :
 Code.wp Tryz.prog (sSnd (sSnd (sSnd (sSnd (sSnd (sSnd (sSnd (sSnd ((Tryz.f18.body.getD .skip)))))))))) (retOnly R) { tmps := #[v0, .pointer (some ⟨g0, 0, none⟩), .pointer (some ⟨g2, 0, none⟩), .pointer (some ⟨g3, 0, none⟩), .int .i64 0, .slice Av nv cv, .slice At nt ct, .slice Aa na ca, .pointer (some ⟨gs, 0, none⟩), v9, v10, tv0, uv0, v13, v14, v15, v16, v17, v18, v19, v20, v21, v22, v23, v24, v25, v26, v27, v28, v29, v30, v31, v32, v33, v34, v35, v36, v37, v38, v39, v40, v41, v42, v43, v44, v45, v46, v47, v48, v49, v50, v51, v52, v53, v54, v55, v56, v57, v58, v59, v60, v61, v62, v63, v64, v65, v66, v67, v68, v69, v70, v71, v72, v73, v74, v75, v76, v77, v78, v79, v80, v81, v82, v83, v84, v85, v86, v87, v88, v89, v90, v91, v92, v93, v94, v95, v96, v97, v98, v99, v100, v101, v102, v103, v104, v105, v106, v107, v108, v109, v110, v111, v112, v113, v114, v115, v116, v117, v118, v119, v120, v121, v122, v123, v124, v125, v126, v127, v128, v129, v130, v131, v132, v133, v134, v135, v136, v137, v138, v139, v140, v141, v142, v143, v144, v145, v146, v147, v148, v149, v150, v151, v152, v153, v154, v155, v156, v157, v158, v159, v160, v161, v162, v163, v164, v165, v166, v167, v168, v169, v170, v171, v172, v173, v174, v175, v176, v177, v178, v179, v180, v181, v182, v183, v184, v185, v186, v187, v188, v189, v190, v191, v192, v193, v194, v195, v196, v197, v198, v199, v200, v201, v202, v203, v204, v205, v206, v207, v208, v209, v210, v211, v212, v213, v214, v215, v216, v217, v218, v219, v220, v221], defers := ds } wr0 := by
 obtain ⟨CT, hCT⟩ : ∃ C, C = sSnd (sSnd (sSnd (sSnd (sSnd (sSnd (sSnd (sSnd ((Tryz.f18.body.getD .skip))))))))) := ⟨_, rfl⟩
 rw [<- hCT]
 conv at hCT => rhs; whnf
 subst hCT
 have H := hide h
 have hc1 := h.cost; have hr1 := h.rows; have hl1 := h.lo; have hh1 := h.hi; have ho1 := h.opn
 have L1 := hide hc1.len_; have L2 := hide hr1.len_; have L3 := hide hl1.len_; have L4 := hide hh1.len_; have L5 := hide ho1.len_
 have hn1 : n1 <= 1000 := by have := h.cl; have := L1.out; omega
 have hn2 : n2 <= 1000 := by have := h.rl; have := L2.out; omega
 have hn3 : n3 <= 1000 := by have := h.ll; have := L3.out; omega
 have hn4 : n4 <= 1000 := by have := h.hl; have := L4.out; omega
 have hn5 : n5 <= 1000 := by have := h.ol; have := L5.out; omega
 have hkk := h.kk
 clear h hc1 hr1 hl1 hh1 ho1
 have HP := hide hP; have HL0 := hide hL; have HB := hide hB; have HR0 := hide hR; have HLB0 := hide hLB; have HQ := hide hQ
 have hn524 : n5 <= 24 := by have := L5.out; have := hP.opn; have := hP.n24; omega
 have p4 := (HB.out.b0.later hLB).cell (i := 4) rfl
 clear hP hL hB hR hLB hQ
 go_wp2_with fail
 clear p4
 go_loopw [11, 12, 16] (fun tv uv i wr => ∃ j : Nat, j <= n5 /\ i = .int .i64 (j : Int) /\ RR wr k gs wB.heap.size tv uv (P.rows.map (·.coef) ++ (endsFrom (P.opn.take j) 0).map (unitL P.cost.length)) (P.rows.map (fun r => r.rhs - dotL r.coef P.lo) ++ (endsFrom (P.opn.take j) 0).map fun j => P.hi.getD j 0 - P.lo.getD j 0) /\ Later wB wr) (fun _ _ i _ => (n5 - intOf i).toNat)
 case atStart => exact ⟨0, by omega, rfl, by rw [List.take_zero]; show RR wr0 k gs wB.heap.size tv0 uv0 (_ ++ []) (_ ++ []); rw [List.append_nil, List.append_nil]; exact HR0.out, HLB0.out⟩
 case round =>
  obtain ⟨j, hj, rfl, hRR, hL⟩ := hrel
  have HRR := hide hRR; have HL := hide hL
  clear hRR hL
  by_cases hjn : j < n5
  ·have hj0 : (0 : Int) <= (j : Int) := by omega
   have hj1 : (j : Int) < n5 := by omega
   obtain ⟨o, ho⟩ : ∃ o, P.opn[j]? = some o := ⟨P.opn[j]'(by have := L5.out; omega), List.getElem?_eq_getElem _⟩
   obtain ⟨b4, off4, rfl, z4⟩ := H.out.opn.at_ ho
   have y4 := Later.cell (HL0.out.trans HL.out) z4
   have rb := HB.out.b0.later HL.out
   have p4 := rb.cell (i := 4) rfl; have p0 := rb.cell (i := 0) rfl
   have hT0 : endsFrom (P.opn.take (j+1)) 0 = endsFrom (P.opn.take j) 0 ++ (if o then [] else [j]) := by
    rw [List.take_add_one, ho, Option.toList_some, endsFrom_append, List.length_take, Nat.zero_add, Nat.min_eq_left (by have := L5.out; omega)]
    congr 1 <;> (cases o <;> rfl)
   clear rb ho
   cases o with
   | true =>
     have he : endsFrom (P.opn.take (j+1)) 0 = endsFrom (P.opn.take j) 0 := by rw [hT0]; exact List.append_nil _
     have hrr := HRR.out
     rw [<- he] at hrr
     have HR9 := hide hrr
     clear hT0 he hrr
     go_wp2_with fail
     exact ⟨⟨j+1, by omega, by go_num, HR9.out, HL.out⟩, by simp [intOf]; omega⟩
   | false =>
     have hln := endsFrom_len_le (P.opn.take j) 0
     have hln2 : (endsFrom (P.opn.take j) 0).length <= 24 := by rw [List.length_take] at hln; omega
     have HLT : Hid ((P.rows.map (·.coef) ++ (endsFrom (P.opn.take j) 0).map (unitL P.cost.length)).length <= 1000) := hide (by simp only [List.length_append, List.length_map]; have := HP.out.rl; omega)
     have HLU : Hid ((P.rows.map (fun r => r.rhs - dotL r.coef P.lo) ++ (endsFrom (P.opn.take j) 0).map fun j => P.hi.getD j 0 - P.lo.getD j 0).length <= 1000) := hide (by simp only [List.length_append, List.length_map]; have := HP.out.rl; omega)
     have hjc : j < P.cost.length := by have := L5.out; have := HP.out.opn; omega
     obtain ⟨lq, hlq⟩ : ∃ q, P.lo[j]? = some q := ⟨P.lo[j]'(by rw [HP.out.lo]; exact hjc), List.getElem?_eq_getElem _⟩
     obtain ⟨mq, hmq⟩ : ∃ q, P.hi[j]? = some q := ⟨P.hi[j]'(by rw [HP.out.hi]; exact hjc), List.getElem?_eq_getElem _⟩
     have HT9 : Hid ((P.rows.map (·.coef) ++ (endsFrom (P.opn.take (j+1)) 0).map (unitL P.cost.length)) = (P.rows.map (·.coef) ++ (endsFrom (P.opn.take j) 0).map (unitL P.cost.length)) ++ [unitL P.cost.length j] /\ (P.rows.map (fun r => r.rhs - dotL r.coef P.lo) ++ (endsFrom (P.opn.take (j+1)) 0).map fun j => P.hi.getD j 0 - P.lo.getD j 0) = (P.rows.map (fun r => r.rhs - dotL r.coef P.lo) ++ (endsFrom (P.opn.take j) 0).map fun j => P.hi.getD j 0 - P.lo.getD j 0) ++ [mq - lq]) := hide (by
      rw [hT0, if_neg (by decide), List.map_append, List.map_append, <- List.append_assoc, <- List.append_assoc]
      refine ⟨rfl, ?_⟩
      congr 1
      show [P.hi.getD j 0 - P.lo.getD j 0] = _
      rw [List.getD_eq_getElem?_getD, hmq, List.getD_eq_getElem?_getD, hlq]; rfl)
     obtain ⟨b6, off6, ms, mA, mn, mc, ms', mA', mn', mc', em, m1, m2, m3, m4, mE⟩ := H.out.hi.at_ hmq
     subst em
     obtain ⟨b7, off7, ls, lA, ln, lc, ls', lA', ln', lc', el, l1, l2, l3, l4, lE⟩ := H.out.lo.at_ hlq
     subst el
     have HPC : Hid (w0.cell? ⟨b6, off6 + j * 4, none⟩ = some (.bool ms) /\ w0.cell? ⟨b6, off6 + j * 4 + 1, none⟩ = some (.slice mA mn mc) /\ w0.cell? ⟨b6, off6 + j * 4 + 2, none⟩ = some (.bool ms') /\ w0.cell? ⟨b6, off6 + j * 4 + 3, none⟩ = some (.slice mA' mn' mc') /\ w0.cell? ⟨b7, off7 + j * 4, none⟩ = some (.bool ls) /\ w0.cell? ⟨b7, off7 + j * 4 + 1, none⟩ = some (.slice lA ln lc) /\ w0.cell? ⟨b7, off7 + j * 4 + 2, none⟩ = some (.bool ls') /\ w0.cell? ⟨b7, off7 + j * 4 + 3, none⟩ = some (.slice lA' ln' lc')) := hide ⟨m1, m2, m3, m4, l1, l2, l3, l4⟩
     have HME0 := hide (show RawR w0 (.agg #[.bool ms, .slice mA mn mc, .bool ms', .slice mA' mn' mc']) mq k from mE); have HLE0 := hide (show RawR w0 (.agg #[.bool ls, .slice lA ln lc, .bool ls', .slice lA' ln' lc']) lq k from lE)
     have hj3 : j < n3 := by have := L3.out; rw [HP.out.lo] at this; omega
     have hj4 : j < n4 := by have := L4.out; rw [HP.out.hi] at this; omega
     have hjn1 : j < n1 := by have := L1.out; omega
     clear hT0 hln hlq hmq m1 m2 m3 m4 l1 l2 l3 l4 mE lE
     go_upto_region 25 with (at_make; refine wpList_make_rats rfl (.tmp 117) rfl _ n1 rfl rfl (by omega) ?_; intro g5 w5 hg5 ho5 b5)
     have HO5 := hide (OutRats.mono ho5 (P' := fun b => g5 < b) (fun b hb _ => hb.elim)); have HL5 := hide b5; have HG5 := hide hg5
     have hr5 : ∃ cs, Row w5 g5 36 cs := by
      obtain ⟨g', cap', cs', e', -, -, -, hrow⟩ := ho5.row (by rw [List.length_replicate]; omega)
      injection e' with e' _ _; injection e' with e'; injection e' with e'
      subst e'
      exact ⟨cs', hrow⟩
     obtain ⟨cs5, hr5⟩ := hr5
     have HR5 := hide hr5
     have hx5 := (OutRats.rats ho5).now
     obtain ⟨bz, oz, tz, zA, zn, zc, tz', zA', zn', zc', ez, c1_, c2_, c3_, c4_, -⟩ := hx5.at_ (i := j) (q := 0) (by rw [List.getElem?_replicate, if_pos hjn1])
     injection ez with ez; injection ez with ez1 ez2
     subst ez1 ez2
     rw [Nat.zero_add] at c1_ c2_ c3_ c4_
     have HZ5 := hide (show w5.cell? ⟨g5, j * 4, none⟩ = some _ /\ w5.cell? ⟨g5, j * 4 + 1, none⟩ = some _ /\ w5.cell? ⟨g5, j * 4 + 2, none⟩ = some _ /\ w5.cell? ⟨g5, j * 4 + 3, none⟩ = some _ from ⟨c1_, c2_, c3_, c4_⟩)
     clear ho5 b5 hg5 hr5 hx5 c1_ c2_ c3_ c4_ y4 p4 p0
     go_upto_region 26 with ((with_reducible refine (rone_calls _ 1 (by omega) (by omega) 1 div_1).mono ?_); rintro e w6 ⟨v6_, rfl, o6, b6⟩; obtain ⟨s6, P6, q6, e6, P6', q6', e6', rfl, o6⟩ := o6.open_; have O6 := hide o6; clear o6; obtain ⟨q1_, q2_, q3_, q4_⟩ := HZ5.out; have k1 := Later.cell b6 q1_; have k2 := Later.cell b6 q2_; have k3 := Later.cell b6 q3_; have k4 := Later.cell b6 q4_; have hr6 := HR5.out.later b6; have z1_ := hr6.frozen (j * 4); have z2_ := hr6.frozen (j * 4 + 1); have z3_ := hr6.frozen (j * 4 + 2); have z4_ := hr6.frozen (j * 4 + 3))
     obtain ⟨w7, hw7⟩ : ∃ W, W = ((((w6.setCell ⟨g5, j * 4, none⟩ (.bool s6)).setCell ⟨g5, j * 4 + 1, none⟩ (.slice P6 q6 e6)).setCell ⟨g5, j * 4 + 2, none⟩ (.bool false)).setCell ⟨g5, j * 4 + 3, none⟩ (.slice P6' q6' e6')) := ⟨_, rfl⟩
     have oo : Only g5 w6 w7 := by rw [hw7]; exact (((Only.one g5 w6 _ _).set _ _).set _ _).set _ _
     have ho7 := OutRats.putP (HO5.out.later b6) (i := j) (by rw [List.length_replicate]; exact hjn1) rfl ((On.ownR O6.out).mono (P' := fun b => g5 < b /\ some b ≠ some g5) (fun b hb _ => by have h9 : w5.heap.size <= b := hb; have := HR5.out.lt; exact ⟨by omega, fun e => by injection e with e; omega⟩) |>.map (T' := fun W => ERaw 1 W (.agg #[.bool s6, .slice P6 q6 e6, .bool false, .slice P6' q6' e6']) 1) (fun W h => OwnR.raw h sized_1))
     rw [<- hw7] at ho7 ⊢
     have hl7 : Later wr w7 := (HL5.out.trans b6).only oo HG5.out
     have hunit : (List.replicate n1 (0 : Rat)).set j 1 = unitL P.cost.length j := by unfold unitL; rw [L1.out]
     rw [hunit] at ho7
     have hon7 := OutRats.rats ho7
     have hRR7 := HRR.out.later hl7
     have hut := HRR.out.u.lt; have htt := HRR.out.t.lt
     have hg5 := HG5.out; have hgsw : gs < wr.heap.size := by have := (HB.out.s.later HL.out).lt; exact this
     have HN7 : Hid (On w7 (fun b => (some b ≠ u12.ownBlock /\ b ≠ gs) /\ some b ≠ u11.ownBlock) (fun W => Rats (ERaw (k+1)) W (.slice (some ⟨g5, 0, none⟩) n1 n1) (unitL P.cost.length j))) := hide ((hon7.mono (fun b hb _ => by
      have hb9 : wr.heap.size <= b := by rcases hb with hb | hb <;> omega
      exact ⟨⟨fun e => by have := (hut b e.symm).2; omega, by omega⟩, fun e => by have := (htt b e.symm).2; omega⟩)).map (fun W h => h.map fun v q _ h => RawR.mono h (by omega)))
     have HRR7 := hide hRR7; have HL7 := hide hl7
     clear hw7 oo ho7 hl7 hunit hon7 hRR7 hut htt hg5 hgsw k1 k2 k3 k4 hr6 z1_ z2_ z3_ z4_ q1_ q2_ q3_ q4_ O6 HO5 HZ5 HR5 b6
     go_upto_region 27 with (at_builtin; refine wpList_append_row3 rfl _ _ rfl rfl (HRR7.out.t.later ((Later.refl _).alloc _)) rfl (Row.new w7 22 [.slice (some ⟨g5, 0, none⟩) n1 n1]) (HN7.out.later ((Later.refl _).alloc _)) (by have := HLT.out; omega) (by rw [World.size_alloc]; have h1 := HL.out.size; have h2 := HL7.out.size; omega) ?_; intro v8_ wF k1 k2 k3)
     have HRF := hide (RR.growT (HRR7.out.later ((Later.refl w7).alloc _)) k1 k2)
     have htl := HRR7.out.t.lt
     have HLF : Hid (Later wB wF) := hide (((HL.out.trans HL7.out).alloc _).grown k2 (fun q hq => (htl q hq).1))
     have HSF : Hid (wB.heap.size <= wF.heap.size) := hide HLF.out.size
     have HME := hide (RawR.later HME0.out (HL0.out.trans HLF.out)); have HLE := hide (RawR.later HLE0.out (HL0.out.trans HLF.out))
     have HT1 : Hid (∀ w', Later wF w' -> w'.cell? ⟨g0, 3, none⟩ = some (.slice (some ⟨b6, off6, none⟩) n4 c4) /\ w'.cell? ⟨b6, off6 + j * 4, none⟩ = some (.bool ms) /\ w'.cell? ⟨b6, off6 + j * 4 + 1, none⟩ = some (.slice mA mn mc) /\ w'.cell? ⟨b6, off6 + j * 4 + 2, none⟩ = some (.bool ms') /\ w'.cell? ⟨b6, off6 + j * 4 + 3, none⟩ = some (.slice mA' mn' mc') /\ w'.cell? ⟨g0, 2, none⟩ = some (.slice (some ⟨b7, off7, none⟩) n3 c3) /\ w'.cell? ⟨b7, off7 + j * 4, none⟩ = some (.bool ls) /\ w'.cell? ⟨b7, off7 + j * 4 + 1, none⟩ = some (.slice lA ln lc) /\ w'.cell? ⟨b7, off7 + j * 4 + 2, none⟩ = some (.bool ls') /\ w'.cell? ⟨b7, off7 + j * 4 + 3, none⟩ = some (.slice lA' ln' lc')) := hide fun w' hb => by
      obtain ⟨y1, y2, y3, y4, y5, y6, y7, y8⟩ := HPC.out
      have hl0 := HL0.out.trans (HLF.out.trans hb)
      have r31 := HB.out.b0.later (HLF.out.trans hb)
      exact ⟨r31.cell rfl, Later.cell hl0 y1, Later.cell hl0 y2, Later.cell hl0 y3, Later.cell hl0 y4, r31.cell rfl, Later.cell hl0 y5, Later.cell hl0 y6, Later.cell hl0 y7, Later.cell hl0 y8⟩
     clear k1 k2 k3 htl HRR7 HL7 HN7 HL5 HG5 HME0 HLE0
     have hmx : Tryz.prog.follows .mixedOrders = true := by kernel_rfl
     refine wp_region_N (fun w' => w'.cell? ⟨g0, 3, none⟩ = some (.slice (some ⟨b6, off6, none⟩) n4 c4) /\ w'.cell? ⟨b6, off6 + j * 4, none⟩ = some (.bool ms) /\ w'.cell? ⟨b6, off6 + j * 4 + 1, none⟩ = some (.slice mA mn mc) /\ w'.cell? ⟨b6, off6 + j * 4 + 2, none⟩ = some (.bool ms') /\ w'.cell? ⟨b6, off6 + j * 4 + 3, none⟩ = some (.slice mA' mn' mc') /\ w'.cell? ⟨g0, 2, none⟩ = some (.slice (some ⟨b7, off7, none⟩) n3 c3) /\ w'.cell? ⟨b7, off7 + j * 4, none⟩ = some (.bool ls) /\ w'.cell? ⟨b7, off7 + j * 4 + 1, none⟩ = some (.slice lA ln lc) /\ w'.cell? ⟨b7, off7 + j * 4 + 2, none⟩ = some (.bool ls') /\ w'.cell? ⟨b7, off7 + j * 4 + 3, none⟩ = some (.slice lA' ln' lc')) [] hmx (HT1.out _ lt_) (fun hHeld => ?_)
     refine tkB 127 0 ?_
     refine tkB 128 1 ?_
     refine tkB 129 2 ?_
     refine tkB 130 3 ?_
     refine tkB 131 4 ?_
     refine tkB 132 5 ?_
     refine tkB 133 6 ?_
     refine tkB 134 7 ?_
     refine tkB 135 8 ?_
     refine tkB 136 9 ?_
     refine tkB 137 10 ?_
     refine wpAnyN_ready (rs := [11]) (by kernel_rfl) (by simp) ?_
     refine AllReadyN.held rfl (by rfl) (fun K hK => ?_) AllReadyN.nil
     go_simp
     refine (qsub_calls _ _ _ mq lq k k (RawR.later HME.out lt_) (RawR.later HLE.out lt_) (by omega)).mono ?_
     rintro e w30 ⟨v30_, rfl, o30, b30⟩
     obtain ⟨s30, P30, q30, e30, P30', q30', e30', rfl, o30⟩ := o30.open_; have O30 := hide o30; clear o30
     have l30 : Later wF w30 := Later.trans lt_ b30
     refine hK.out _ _ ?_ (fun hHeld => ?_)
     ·exact HT1.out _ lt_
     clear hK K
     try simp only [Act.put, s1_, s2_, s3_]
     refine wpAnyN_ready (rs := [12]) (by kernel_rfl) (by simp) ?_
     refine AllReadyN.held rfl (by rfl) (fun K hK => ?_) AllReadyN.nil
     go_simp
     refine hK.out _ _ ?_ (fun hHeld => ?_)
     ·exact HT1.out _ lt_
     clear hK K
     try simp only [Act.put, s1_, s2_, s3_]
     refine wpAnyN_ready (rs := [13]) (by kernel_rfl) (by simp) ?_
     refine AllReadyN.held rfl (by rfl) (fun K hK => ?_) AllReadyN.nil
     refine wp_append_rowu _ _ rfl rfl (HRF.out.u.later (l30.alloc _)) rfl (Row.new w30 36 [.bool s30, .slice P30 q30 e30, .bool false, .slice P30' q30' e30']) (OwnR.later O30.out ((Later.refl w30).alloc _)) (by have := HLU.out; omega) (by rw [World.size_alloc]; have h1 := HSF.out; have h2 := l30.size; omega) ?_
     intro v31_ w31 k1 k2 k3
     have hRX := RR.growU (HRF.out.later (l30.alloc (Obj.cells #[Value.bool s30, Value.slice P30 q30 e30, Value.bool false, Value.slice P30' q30' e30'] 36))) k1 k2 k3
     have hlu := HRF.out.u.lt
     have hl31 : Later wB w31 := ((HLF.out.trans l30).alloc _).grown k2 (fun q hq => (hlu q hq).1)
     obtain ⟨y1, y2, y3, y4, y5, y6, y7, y8⟩ := HPC.out
     have r31 := HB.out.b0.later hl31
     have hl0 := HL0.out.trans hl31
     have HT3 : Hid (w31.cell? ⟨g0, 3, none⟩ = some (.slice (some ⟨b6, off6, none⟩) n4 c4) /\ w31.cell? ⟨b6, off6 + j * 4, none⟩ = some (.bool ms) /\ w31.cell? ⟨b6, off6 + j * 4 + 1, none⟩ = some (.slice mA mn mc) /\ w31.cell? ⟨b6, off6 + j * 4 + 2, none⟩ = some (.bool ms') /\ w31.cell? ⟨b6, off6 + j * 4 + 3, none⟩ = some (.slice mA' mn' mc') /\ w31.cell? ⟨g0, 2, none⟩ = some (.slice (some ⟨b7, off7, none⟩) n3 c3) /\ w31.cell? ⟨b7, off7 + j * 4, none⟩ = some (.bool ls) /\ w31.cell? ⟨b7, off7 + j * 4 + 1, none⟩ = some (.slice lA ln lc) /\ w31.cell? ⟨b7, off7 + j * 4 + 2, none⟩ = some (.bool ls') /\ w31.cell? ⟨b7, off7 + j * 4 + 3, none⟩ = some (.slice lA' ln' lc')) := hide ⟨r31.cell rfl, Later.cell hl0 y1, Later.cell hl0 y2, Later.cell hl0 y3, Later.cell hl0 y4, r31.cell rfl, Later.cell hl0 y5, Later.cell hl0 y6, Later.cell hl0 y7, Later.cell hl0 y8⟩
     have HRX := hide hRX; have HL31 := hide hl31
     clear k1 k2 k3 hRX hlu y1 y2 y3 y4 y5 y6 y7 y8 r31 hl0 hl31
     refine hK.out _ _ ?_ (fun hHeld => ?_)
     ·exact HT3.out
     clear hK K
     try simp only [Act.put, s1_, s2_, s3_]
     refine tkB 12 14 ?_
     refine wpAnyN_done (by kernel_rfl) ?_ _
     clear hHeld HT1 HT3
     go_wp2_with fail
     exact ⟨⟨j+1, by omega, by go_num, by rw [HT9.out.1, HT9.out.2]; exact HRX.out, HL31.out⟩, by simp [intOf]; omega⟩
  ·have hj1 : ¬ (j : Int) < n5 := by omega
   have hjn9 : j = n5 := by omega
   have hTT : (P.rows.map (·.coef) ++ (endsFrom (P.opn.take j) 0).map (unitL P.cost.length)) = baseA P := by rw [List.take_of_length_le (by have := L5.out; omega)]; rfl
   have hUU : (P.rows.map (fun r => r.rhs - dotL r.coef P.lo) ++ (endsFrom (P.opn.take j) 0).map fun j => P.hi.getD j 0 - P.lo.getD j 0) = baseB P := by rw [List.take_of_length_le (by have := L5.out; omega)]; rfl
   have hrr := HRR.out
   rw [hTT, hUU] at hrr
   obtain ⟨AT, nT, cT, etv, -⟩ := hrr.t.tab.now.form
   obtain ⟨AU, nU, cU, euv⟩ := hrr.u.form
   subst etv euv
   have HR9 := hide hrr
   have p4 := (HB.out.b0.later HL.out).cell (i := 4) rfl
   clear hTT hUU hrr
   go_upto_if 106 with fail
   go_step
   go_step
   simp only [Exit.then, Exit.inBlock]
   apply_assumption
   exact rstd_D w0 wr _ _ _ _ _ _ _ _ _ _ _ _ _ _ _ k P H.out HP.out g0 g2 g3 gs _ _ _ _ _ _ _ _ _ _ _ _ _ _ _ _ _ _ (HL0.out.trans HL.out) (HB.out.s.later HL.out) (onC (HB.out.later HL.out)) (onRF HB.out HR9.out HL.out hg2s HB.out.s.lt) hg2 hg3 hgs0 hg2s ds _ _ _ _ _ _ _ _ _ _ _ _ _ _ _ _ _ _ _ _ _ _ _ _ _ _ _ _ _ _ _ _ _ _ _ _ _ _ _ _ _ _ _ _ _ _ _ _ _ _ _ _ _ _ _ _ _ _ _ _ _ _ _ _ _ _ _ _ _ _ _ _ _ _ _ _ _ _ _ _ _ _ _ _ _ _ _ _ _ _ _ _ _ _ _ _ _ _ _ _ _ _ _ _ _ _ _ _ _ _ _ _ _ _ _ _ _ _ _ _ _ _ _ _ _ _ _ _ _ _ _ _ _ _ _ _ _ _ _ _ _ _ _ _ _ _ _ _ _ _ _ _ _ _ _ _ _ _ _ _ _ _ _ _ _ _ _ _ _ _ _ _ _ _ _ _ _ _ _ _ _ _ _ _ _ _ _ _ _ _ _ _ _ _ _ _ _ _ _ _ _ _ _ _ _ _ _ _ _ _ _ _  R HQ.out
set_option maxHeartbeats 32000000 in
theorem rstd_B (w0 wB : World) (A1 A2 A3 A4 A5 : Option Addr) (n1 n2 n3 n4 n5 c1 c2 c3 c4 c5 : Nat) (k : Nat) (P : PLp) (h : LpIn w0 (.slice A1 n1 c1) (.slice A2 n2 c2) (.slice A3 n3 c3) (.slice A4 n4 c4) (.slice A5 n5 c5) k P) (hP : LpP P)
 (g0 g2 g3 gs lo : Nat) (Av At Aa AC : Option Addr) (nv nt na nC cv ct ca cC : Nat) (hL : Later w0 wB) (hB : BS wB P g0 g2 g3 gs lo [.slice A1 n1 c1, .slice A2 n2 c2, .slice A3 n3 c3, .slice A4 n4 c4, .slice A5 n5 c5] (.slice Av nv cv) (.slice At nt ct) (.slice Aa na ca) (.slice AC nC cC)) 
 (hg2 : w0.heap.size <= g2) (hg3 : w0.heap.size <= g3) (hgs0 : w0.heap.size <= gs) (hg2s : gs ≠ g2) (ds : List Deferred) (v0 v9 v10 v11 v12 v13 v14 v15 v16 v17 v18 v19 v20 v21 v22 v23 v24 v25 v26 v27 v28 v29 v30 v31 v32 v33 v34 v35 v36 v37 v38 v39 v40 v41 v42 v43 v44 v45 v46 v47 v48 v49 v50 v51 v52 v53 v54 v55 v56 v57 v58 v59 v60 v61 v62 v63 v64 v65 v66 v67 v68 v69 v70 v71 v72 v73 v74 v75 v76 v77 v78 v79 v80 v81 v82 v83 v84 v85 v86 v87 v88 v89 v90 v91 v92 v93 v94 v95 v96 v97 v98 v99 v100 v101 v102 v103 v104 v105 v106 v107 v108 v109 v110 v111 v112 v113 v114 v115 v116 v117 v118 v119 v120 v121 v122 v123 v124 v125 v126 v127 v128 v129 v130 v131 v132 v133 v134 v135 v136 v137 v138 v139 v140 v141 v142 v143 v144 v145 v146 v147 v148 v149 v150 v151 v152 v153 v154 v155 v156 v157 v158 v159 v160 v161 v162 v163 v164 v165 v166 v167 v168 v169 v170 v171 v172 v173 v174 v175 v176 v177 v178 v179 v180 v181 v182 v183 v184 v185 v186 v187 v188 v189 v190 v191 v192 v193 v194 v195 v196 v197 v198 v199 v200 v201 v202 v203 v204 v205 v206 v207 v208 v209 v210 v211 v212 v213 v214 v215 v216 v217 v218 v219 v220 v221 : Value) (R : Act -> World -> Prop)
 (hQ : ∀ (a' : Act) (w' : World) (vA vB : Value) (s1 s2 : Bool) (P1 P2 : Option Addr) (q1 q2 e1 e2 : Nat), a'.defers = ds -> a'.tmps[2]?.getD undef = .pointer (some ⟨g2, 0, none⟩) -> a'.tmps[3]?.getD undef = .pointer (some ⟨g3, 0, none⟩) -> a'.tmps[4]?.getD undef = .int .i64 0 ->
  Row w' g2 31 [vA, vB, .slice AC nC cC] -> Row w' g3 36 [.bool s1, .slice P1 q1 e1, .bool s2, .slice P2 q2 e2] -> Tab EOwn w' vA (stdA P) -> Rats EOwn w' vB (stdB P) -> Rats EOwn w' (.slice AC nC cC) (stdC P) -> OwnR w' 0 (.agg #[.bool s1, .slice P1 q1 e1, .bool s2, .slice P2 q2 e2]) (restV P) -> Later w0 w' -> R a' w') :
 Code.wp Tryz.prog (sSnd (sSnd (sSnd (sSnd (sSnd ((Tryz.f18.body.getD .skip))))))) (retOnly R) { tmps := #[v0, .pointer (some ⟨g0, 0, none⟩), .pointer (some ⟨g2, 0, none⟩), .pointer (some ⟨g3, 0, none⟩), .int .i64 0, .slice Av nv cv, .slice At nt ct, .slice Aa na ca, .pointer (some ⟨gs, 0, none⟩), v9, v10, v11, v12, v13, v14, v15, v16, v17, v18, v19, v20, v21, v22, v23, v24, v25, v26, v27, v28, v29, v30, v31, v32, v33, v34, v35, v36, v37, v38, v39, v40, v41, v42, v43, v44, v45, v46, v47, v48, v49, v50, v51, v52, v53, v54, v55, v56, v57, v58, v59, v60, v61, v62, v63, v64, v65, v66, v67, v68, v69, v70, v71, v72, v73, v74, v75, v76, v77, v78, v79, v80, v81, v82, v83, v84, v85, v86, v87, v88, v89, v90, v91, v92, v93, v94, v95, v96, v97, v98, v99, v100, v101, v102, v103, v104, v105, v106, v107, v108, v109, v110, v111, v112, v113, v114, v115, v116, v117, v118, v119, v120, v121, v122, v123, v124, v125, v126, v127, v128, v129, v130, v131, v132, v133, v134, v135, v136, v137, v138, v139, v140, v141, v142, v143, v144, v145, v146, v147, v148, v149, v150, v151, v152, v153, v154, v155, v156, v157, v158, v159, v160, v161, v162, v163, v164, v165, v166, v167, v168, v169, v170, v171, v172, v173, v174, v175, v176, v177, v178, v179, v180, v181, v182, v183, v184, v185, v186, v187, v188, v189, v190, v191, v192, v193, v194, v195, v196, v197, v198, v199, v200, v201, v202, v203, v204, v205, v206, v207, v208, v209, v210, v211, v212, v213, v214, v215, v216, v217, v218, v219, v220, v221], defers := ds } wB := by
 obtain ⟨CT, hCT⟩ : ∃ C, C = sSnd (sSnd (sSnd (sSnd (sSnd ((Tryz.f18.body.getD .skip)))))) := ⟨_, rfl⟩
 rw [<- hCT]
 conv at hCT => rhs; whnf
 subst hCT
 have H := hide h
 have hc1 := h.cost; have hr1 := h.rows; have hl1 := h.lo; have hh1 := h.hi; have ho1 := h.opn
 have L1 := hide hc1.len_; have L2 := hide hr1.len_; have L3 := hide hl1.len_; have L4 := hide hh1.len_; have L5 := hide ho1.len_
 have hn1 : n1 <= 1000 := by have := h.cl; have := L1.out; omega
 have hn2 : n2 <= 1000 := by have := h.rl; have := L2.out; omega
 have hn3 : n3 <= 1000 := by have := h.ll; have := L3.out; omega
 have hn4 : n4 <= 1000 := by have := h.hl; have := L4.out; omega
 have hn5 : n5 <= 1000 := by have := h.ol; have := L5.out; omega
 have hkk := h.kk
 clear h hc1 hr1 hl1 hh1 ho1
 have HP := hide hP; have HL0 := hide hL; have HB := hide hB; have HQ := hide hQ
 have hn224 : n2 <= 24 := by have := L2.out; have := hP.rl; omega
 have p1 := HB.out.b0.cell (i := 1) rfl
 clear hP hL hB hQ
 go_wp2_with fail
 clear p1
 go_loopw [11, 12, 13] (fun tv uv i wr => ∃ j : Nat, j <= n2 /\ i = .int .i64 (j : Int) /\ RR wr k gs wB.heap.size tv uv ((P.rows.take j).map (·.coef)) ((P.rows.take j).map fun r => r.rhs - dotL r.coef P.lo) /\ Later wB wr) (fun _ _ i _ => (n2 - intOf i).toNat)
 case atStart => exact ⟨0, by omega, rfl, RR.nil _ _ _ _, Later.refl _⟩
 case round =>
  obtain ⟨j, hj, rfl, hRR, hL⟩ := hrel
  have HRR := hide hRR; have HL := hide hL
  have p1 := (HB.out.b0.later hL).cell (i := 1) rfl
  clear hRR hL
  by_cases hjn : j < n2
  ·have hj0 : (0 : Int) <= (j : Int) := by omega
   have hj1 : (j : Int) < n2 := by omega
   obtain ⟨r, hr⟩ : ∃ r, P.rows[j]? = some r := ⟨P.rows[j]'(by have := L2.out; omega), List.getElem?_eq_getElem _⟩
   obtain ⟨b3, off3, rfl, rc, z0, z1, z2, z3, z4, z5, hE⟩ := H.out.rows.at6 hr
   have HE := hide hE
   have hrl := (HP.out.rows r (List.mem_of_getElem? hr)).1
   have HCL : Hid (r.coef.length = P.lo.length) := hide (by rw [hrl, HP.out.lo])
   have HMUL : Hid ((r.coef.length + 1) * (k + k + 4) <= 20000000) := hide (by have := Nat.mul_le_mul (show r.coef.length + 1 <= 25 by rw [hrl]; have := HP.out.n24; omega) (show k + k + 4 <= 2004 by omega); omega)
   have HSD : Hid (Sized (dotL r.coef P.lo) 200000) := hide ((sized_dotL (Rats.sized hE.coef) (Rats.sized H.out.lo)).mono (by
    have : r.coef.length * (k + 1 + (k + 1) + 1) <= 24 * 2003 := Nat.mul_le_mul (by rw [hrl]; exact HP.out.n24) (by omega)
    omega))
   have HERW : Hid (RawR w0 (.agg #[.bool rc.e.a, .slice rc.e.A rc.e.n rc.e.c, .bool rc.e.a', .slice rc.e.A' rc.e.n' rc.e.c']) r.rhs k) := hide hE.rhs
   have HPC : Hid (w0.cell? ⟨b3, off3 + j * 6 + 2, none⟩ = some (.bool rc.e.a) /\ w0.cell? ⟨b3, off3 + j * 6 + 3, none⟩ = some (.slice rc.e.A rc.e.n rc.e.c) /\ w0.cell? ⟨b3, off3 + j * 6 + 4, none⟩ = some (.bool rc.e.a') /\ w0.cell? ⟨b3, off3 + j * 6 + 5, none⟩ = some (.slice rc.e.A' rc.e.n' rc.e.c')) := hide ⟨z2, z3, z4, z5⟩
   have HX0 := hide z0
   have HT9 : Hid (((P.rows.take (j+1)).map (·.coef)) = ((P.rows.take j).map (·.coef)) ++ [r.coef] /\ ((P.rows.take (j+1)).map fun r => r.rhs - dotL r.coef P.lo) = ((P.rows.take j).map fun r => r.rhs - dotL r.coef P.lo) ++ [r.rhs - dotL r.coef P.lo]) := hide (by rw [List.take_add_one, hr]; exact ⟨List.map_append, List.map_append⟩)
   have HLMT : Hid (((P.rows.take j).map (·.coef)).length <= 1000) := hide (by rw [List.length_map, List.length_take]; omega)
   have HLM : Hid (((P.rows.take j).map fun r => r.rhs - dotL r.coef P.lo).length <= 1000) := hide (by rw [List.length_map, List.length_take]; omega)
   have HT1 : Hid (∀ w', Later wr w' -> w'.cell? ⟨g0, 1, none⟩ = some (.slice (some ⟨b3, off3, none⟩) n2 c2) /\ w'.cell? ⟨b3, off3 + j * 6, none⟩ = some (.slice rc.A rc.n rc.c) /\ w'.cell? ⟨g0, 2, none⟩ = some (.slice A3 n3 c3)) := hide fun w' hb => by
    have rb := HB.out.b0.later (HL.out.trans hb)
    exact ⟨rb.cell rfl, Later.cell (HL0.out.trans (HL.out.trans hb)) z0, rb.cell rfl⟩
   have x0 := z0
   clear hr hE hrl z0 z1 z2 z3 z4 z5
   go_upto_region 17 with fail
   clear p1
   have hmx : Tryz.prog.follows .mixedOrders = true := by kernel_rfl
   refine wp_region_N (fun w' => w'.cell? ⟨g0, 1, none⟩ = some (.slice (some ⟨b3, off3, none⟩) n2 c2) /\ w'.cell? ⟨b3, off3 + j * 6, none⟩ = some (.slice rc.A rc.n rc.c) /\ w'.cell? ⟨g0, 2, none⟩ = some (.slice A3 n3 c3)) [] hmx (HT1.out _ lt_) (fun hHeld => ?_)
   refine tkB 71 0 ?_
   refine tkB 72 1 ?_
   refine tkB 73 2 ?_
   refine tkB 74 3 ?_
   refine tkB 75 4 ?_
   refine tkB 76 5 ?_
   refine tkB 77 6 ?_
   refine tkB 78 7 ?_
   refine wpAnyN_ready (rs := [8, 12]) (by kernel_rfl) (by simp) ?_
   refine AllReadyN.held rfl (by rfl) (fun K hK => ?_) ?_
   ·go_simp
    refine (qdot_calls _ _ _ r.coef P.lo k k (HE.out.coef.later ERaw.later (HL0.out.trans (HL.out.trans lt_))) (H.out.lo.later ERaw.later (HL0.out.trans (HL.out.trans lt_))) HCL.out HMUL.out).mono ?_
    rintro e w20 ⟨v20_, ok20, rfl, ⟨o20, rfl⟩, b20⟩
    obtain ⟨s20, P20, q20, e20, P20', q20', e20', rfl, o20⟩ := o20.open_; have O20 := hide o20; clear o20
    have l20 : Later wr w20 := Later.trans lt_ b20
    refine hK.out _ _ ?_ (fun hHeld => ?_)
    ·exact HT1.out _ lt_
    clear hK K
    try simp only [Act.put, s1_, s2_, s3_]
    refine tkB 70 9 ?_
    refine tkB 80 10 ?_
    refine tkB 81 11 ?_
    refine wpAnyN_ready (rs := [12]) (by kernel_rfl) (by simp) ?_
    refine AllReadyN.held rfl (by rfl) (fun K hK => ?_) AllReadyN.nil
    go_simp
    obtain ⟨wl, hwl⟩ : ∃ W, W = w20.alloc (Obj.cells #[Value.bool false, Value.slice none 0 0, Value.bool false, Value.slice none 0 0] 36) := ⟨_, rfl⟩
    obtain ⟨gl, hgl⟩ : ∃ g, g = w20.heap.size := ⟨_, rfl⟩
    have rl : Row wl gl 36 [.bool false, .slice none 0 0, .bool false, .slice none 0 0] := by rw [hwl, hgl]; exact Row.new _ _ _
    have l21 : Later wr wl := by rw [hwl]; exact l20.alloc _
    have hgl2 : wr.heap.size <= gl := by rw [hgl]; exact l20.size
    have HGL := hide hgl2
    rw [<- hwl, <- hgl]
    have b21 : Later w20 wl := by rw [hwl]; exact (Later.refl _).alloc _
    have RL := hide rl; have O21 := hide (OwnR.later O20.out b21)
    have q0 := rl.cell (i := 0) rfl; have q1 := rl.cell (i := 1) rfl; have q2 := rl.cell (i := 2) rfl; have q3 := rl.cell (i := 3) rfl
    have qz0 := rl.frozen 0; have qz1 := rl.frozen 1; have qz2 := rl.frozen 2; have qz3 := rl.frozen 3
    clear b21
    clear hwl hgl hgl2 rl
    refine hK.out _ _ ?_ (fun hHeld => ?_)
    ·exact HT1.out _ lt_
    clear hK K
    try simp only [Act.put, s1_, s2_, s3_]
    refine wpAnyN_ready (rs := [13]) (by kernel_rfl) (by simp) ?_
    refine AllReadyN.held rfl (by rfl) (fun K hK => ?_) AllReadyN.nil
    go_simp
    obtain ⟨wm, hwm⟩ : ∃ W, W = ((((wl.setCell ⟨gl, 0, none⟩ (.bool s20)).setCell ⟨gl, 1, none⟩ (.slice P20 q20 e20)).setCell ⟨gl, 2, none⟩ (.bool false)).setCell ⟨gl, 3, none⟩ (.slice P20' q20' e20')) := ⟨_, rfl⟩
    rw [<- hwm]
    have oo : Only gl wl wm := by rw [hwm]; exact Only.four _ _ _ _ _ _
    have rm : Row wm gl 36 [.bool s20, .slice P20 q20 e20, .bool false, .slice P20' q20' e20'] := by rw [hwm]; exact RL.out.four _ _ _ _
    have l22 : Later wr wm := l21.only oo HGL.out
    have OM := hide (OwnR.keepU O21.out (KeepU.only oo RL.out tRat_u32)); have RM := hide rm
    clear hwm oo rm q0 q1 q2 q3 qz0 qz1 qz2 qz3
    refine hK.out _ _ ?_ (fun hHeld => ?_)
    ·exact HT1.out _ lt_
    clear hK K
    try simp only [Act.put, s1_, s2_, s3_]
    refine tkB 15 14 ?_
    refine wpAnyN_done (by kernel_rfl) ?_ _
    clear hHeld HT1 x0
    have HLm := hide (HL.out.trans l22)
    have HLw := hide l22
    have HRRm := hide (HRR.out.later l22)
    have rb := HB.out.b0.later HLm.out
    have p1 := rb.cell (i := 1) rfl
    have y0 := Later.cell (HL0.out.trans HLm.out) HX0.out
    have hel : On (wm.alloc (Obj.cells #[Value.slice rc.A rc.n rc.c] 22)) (fun b => (some b ≠ u12.ownBlock /\ b ≠ gs) /\ some b ≠ u11.ownBlock) (fun W => Rats (ERaw (k+1)) W (.slice rc.A rc.n rc.c) r.coef) := by
     have hut := HRR.out.u.lt; have htt := HRR.out.t.lt; have hb0 := HL0.out.size
     exact (((On.ratsRaw HE.out.coef).later ((HL0.out.trans HLm.out).alloc _)).mono (fun b hb _ => by
      have hb9 : b < w0.heap.size := hb
      exact ⟨⟨fun e => by have := (hut b e.symm).1; omega, by omega⟩, fun e => by have := (htt b e.symm).1; omega⟩)).map (fun W h => h.map fun v q _ h => RawR.mono h (by omega))
    have HEL := hide hel
    clear hel rb l20 l21 l22
    go_upto_region 19 with (at_builtin; refine wpList_append_row3 rfl _ _ rfl rfl (HRRm.out.t.later ((Later.refl _).alloc _)) rfl (Row.new wm 22 [.slice rc.A rc.n rc.c]) HEL.out (by have := HLMT.out; omega) (by rw [World.size_alloc]; have h1 := HLm.out.size; omega) ?_; intro v8_ wF k1 k2 k3)
    have HRF := hide (RR.growT (HRRm.out.later ((Later.refl wm).alloc _)) k1 k2)
    have htl := HRRm.out.t.lt
    have HLF : Hid (Later wB wF) := hide ((HLm.out.alloc _).grown k2 (fun q hq => (htl q hq).1))
    have HSF : Hid (wB.heap.size <= wF.heap.size) := hide HLF.out.size
    have htw := HRR.out.t.lt; have huw := HRR.out.u.lt
    have RF_ := hide ((RM.out.later ((Later.refl wm).alloc (Obj.cells #[Value.slice rc.A rc.n rc.c] 22))).grown k2 (fun e => by have := (htw gl e.symm).2; have := HGL.out; omega))
    have HUG : Hid (u12.ownBlock ≠ some gl) := hide (fun e => by have := (huw gl e).2; have := HGL.out; omega)
    have OF := hide (by
     obtain ⟨es, -, hown, -⟩ := (HRRm.out.later ((Later.refl wm).alloc (Obj.cells #[Value.slice rc.A rc.n rc.c] 22))).t
     exact OwnR.keepU OM.out ((KeepU.later ((Later.refl wm).alloc (Obj.cells #[Value.slice rc.A rc.n rc.c] 22))).trans (KeepU.grown k2 hown tRow_u32)))
    have HT1 : Hid (∀ w', Later wF w' -> w'.cell? ⟨g0, 1, none⟩ = some (.slice (some ⟨b3, off3, none⟩) n2 c2) /\ w'.cell? ⟨b3, off3 + j * 6 + 2, none⟩ = some (.bool rc.e.a) /\ w'.cell? ⟨b3, off3 + j * 6 + 3, none⟩ = some (.slice rc.e.A rc.e.n rc.e.c) /\ w'.cell? ⟨b3, off3 + j * 6 + 4, none⟩ = some (.bool rc.e.a') /\ w'.cell? ⟨b3, off3 + j * 6 + 5, none⟩ = some (.slice rc.e.A' rc.e.n' rc.e.c') /\ w'.cell? ⟨gl, 0, none⟩ = some (.bool s20) /\ w'.cell? ⟨gl, 1, none⟩ = some (.slice P20 q20 e20) /\ w'.cell? ⟨gl, 2, none⟩ = some (.bool false) /\ w'.cell? ⟨gl, 3, none⟩ = some (.slice P20' q20' e20')) := hide fun w' hb => by
     obtain ⟨y2, y3, y4, y5⟩ := HPC.out
     have hl0 := HL0.out.trans (HLF.out.trans hb)
     have r31 := HB.out.b0.later (HLF.out.trans hb)
     have rg := RF_.out.later hb
     exact ⟨r31.cell rfl, Later.cell hl0 y2, Later.cell hl0 y3, Later.cell hl0 y4, Later.cell hl0 y5, rg.cell rfl, rg.cell rfl, rg.cell rfl, rg.cell rfl⟩
    clear k1 k2 k3 htl htw huw HRRm HEL HLw HLm RM OM p1 y0
    have hmx : Tryz.prog.follows .mixedOrders = true := by kernel_rfl
    refine wp_region_N (fun w' => w'.cell? ⟨g0, 1, none⟩ = some (.slice (some ⟨b3, off3, none⟩) n2 c2) /\ w'.cell? ⟨b3, off3 + j * 6 + 2, none⟩ = some (.bool rc.e.a) /\ w'.cell? ⟨b3, off3 + j * 6 + 3, none⟩ = some (.slice rc.e.A rc.e.n rc.e.c) /\ w'.cell? ⟨b3, off3 + j * 6 + 4, none⟩ = some (.bool rc.e.a') /\ w'.cell? ⟨b3, off3 + j * 6 + 5, none⟩ = some (.slice rc.e.A' rc.e.n' rc.e.c') /\ w'.cell? ⟨gl, 0, none⟩ = some (.bool s20) /\ w'.cell? ⟨gl, 1, none⟩ = some (.slice P20 q20 e20) /\ w'.cell? ⟨gl, 2, none⟩ = some (.bool false) /\ w'.cell? ⟨gl, 3, none⟩ = some (.slice P20' q20' e20')) [] hmx (HT1.out _ lt_) (fun hHeld => ?_)
    refine tkB 91 0 ?_
    refine tkB 92 1 ?_
    refine tkB 93 2 ?_
    refine tkB 94 3 ?_
    refine tkB 95 4 ?_
    refine tkB 96 5 ?_
    refine tkB 97 6 ?_
    refine tkB 98 7 ?_
    refine wpAnyN_ready (rs := [8]) (by kernel_rfl) (by simp) ?_
    refine AllReadyN.held rfl (by rfl) (fun K hK => ?_) AllReadyN.nil
    go_simp
    refine (qsub_calls _ _ _ r.rhs (dotL r.coef P.lo) k 200000 (RawR.later HERW.out (HL0.out.trans (HLF.out.trans lt_))) (OwnR.raw (OwnR.later OF.out lt_) HSD.out) (by omega)).mono ?_
    rintro e w30 ⟨v30_, rfl, o30, b30⟩
    obtain ⟨s30, P30, q30, e30, P30', q30', e30', rfl, o30⟩ := o30.open_; have O30 := hide o30; clear o30
    have l30 : Later wF w30 := Later.trans lt_ b30
    refine hK.out _ _ ?_ (fun hHeld => ?_)
    ·exact HT1.out _ lt_
    clear hK K
    try simp only [Act.put, s1_, s2_, s3_]
    refine wpAnyN_ready (rs := [9]) (by kernel_rfl) (by simp) ?_
    refine AllReadyN.held rfl (by rfl) (fun K hK => ?_) AllReadyN.nil
    go_simp
    refine hK.out _ _ ?_ (fun hHeld => ?_)
    ·exact HT1.out _ lt_
    clear hK K
    try simp only [Act.put, s1_, s2_, s3_]
    refine wpAnyN_ready (rs := [10]) (by kernel_rfl) (by simp) ?_
    refine AllReadyN.held rfl (by rfl) (fun K hK => ?_) AllReadyN.nil
    refine wp_append_rowu _ _ rfl rfl (HRF.out.u.later (l30.alloc _)) rfl (Row.new w30 36 [.bool s30, .slice P30 q30 e30, .bool false, .slice P30' q30' e30']) (OwnR.later O30.out ((Later.refl w30).alloc _)) (by have := HLM.out; omega) (by rw [World.size_alloc]; have h1 := HSF.out; have h2 := l30.size; omega) ?_
    intro v31_ w31 k1 k2 k3
    have hRX := RR.growU (HRF.out.later (l30.alloc (Obj.cells #[Value.bool s30, Value.slice P30 q30 e30, Value.bool false, Value.slice P30' q30' e30'] 36))) k1 k2 k3
    have hlu := HRF.out.u.lt
    have hl31 : Later wB w31 := ((HLF.out.trans l30).alloc _).grown k2 (fun q hq => (hlu q hq).1)
    obtain ⟨y2, y3, y4, y5⟩ := HPC.out
    have r31 := HB.out.b0.later hl31
    have hl0 := HL0.out.trans hl31
    have rg31 := (RF_.out.later (l30.alloc (Obj.cells #[Value.bool s30, Value.slice P30 q30 e30, Value.bool false, Value.slice P30' q30' e30'] 36))).grown k2 (fun e => HUG.out e.symm)
    have HT3 : Hid (w31.cell? ⟨g0, 1, none⟩ = some (.slice (some ⟨b3, off3, none⟩) n2 c2) /\ w31.cell? ⟨b3, off3 + j * 6 + 2, none⟩ = some (.bool rc.e.a) /\ w31.cell? ⟨b3, off3 + j * 6 + 3, none⟩ = some (.slice rc.e.A rc.e.n rc.e.c) /\ w31.cell? ⟨b3, off3 + j * 6 + 4, none⟩ = some (.bool rc.e.a') /\ w31.cell? ⟨b3, off3 + j * 6 + 5, none⟩ = some (.slice rc.e.A' rc.e.n' rc.e.c') /\ w31.cell? ⟨gl, 0, none⟩ = some (.bool s20) /\ w31.cell? ⟨gl, 1, none⟩ = some (.slice P20 q20 e20) /\ w31.cell? ⟨gl, 2, none⟩ = some (.bool false) /\ w31.cell? ⟨gl, 3, none⟩ = some (.slice P20' q20' e20')) := hide ⟨r31.cell rfl, Later.cell hl0 y2, Later.cell hl0 y3, Later.cell hl0 y4, Later.cell hl0 y5, rg31.cell rfl, rg31.cell rfl, rg31.cell rfl, rg31.cell rfl⟩
    have HRX := hide hRX; have HL31 := hide hl31
    clear k1 k2 k3 hRX hlu y2 y3 y4 y5 r31 hl0 hl31 rg31
    refine hK.out _ _ ?_ (fun hHeld => ?_)
    ·exact HT3.out
    clear hK K
    try simp only [Act.put, s1_, s2_, s3_]
    refine tkB 12 11 ?_
    refine wpAnyN_done (by kernel_rfl) ?_ _
    clear hHeld HT1 HT3
    go_wp2_with fail
    exact ⟨⟨j+1, by omega, by go_num, by rw [HT9.out.1, HT9.out.2]; exact HRX.out, HL31.out⟩, by simp [intOf]; omega⟩
   refine AllReadyN.held rfl (by rfl) (fun K hK => ?_) AllReadyN.nil
   go_simp
   obtain ⟨wl, hwl⟩ : ∃ W, W = (wr.alloc (Obj.cells #[Value.bool false, Value.slice none 0 0, Value.bool false, Value.slice none 0 0] 36)).drew := ⟨_, rfl⟩
   obtain ⟨gl, hgl⟩ : ∃ g, g = wr.heap.size := ⟨_, rfl⟩
   have rl : Row wl gl 36 [.bool false, .slice none 0 0, .bool false, .slice none 0 0] := by rw [hwl, hgl]; exact Row.drew (Row.new _ _ _)
   have l21 : Later wr wl := by rw [hwl]; exact ((Later.refl _).alloc _).drew
   have hgl2 : wr.heap.size <= gl := by rw [hgl]; exact Nat.le_refl _
   have HGL := hide hgl2
   rw [<- hwl, <- hgl]
   have RL0 := hide rl
   clear hwl hgl hgl2 rl
   refine hK.out _ _ ?_ (fun hHeld => ?_)
   ·exact HT1.out _ lt_
   clear hK K
   try simp only [Act.put, s1_, s2_, s3_]
   refine wpAnyN_ready (rs := [8]) (by kernel_rfl) (by simp) ?_
   refine AllReadyN.held rfl (by rfl) (fun K hK => ?_) AllReadyN.nil
   go_simp
   refine (qdot_calls _ _ _ r.coef P.lo k k (HE.out.coef.later ERaw.later (HL0.out.trans (HL.out.trans lt_))) (H.out.lo.later ERaw.later (HL0.out.trans (HL.out.trans lt_))) HCL.out HMUL.out).mono ?_
   rintro e w20 ⟨v20_, ok20, rfl, ⟨o20, rfl⟩, b20⟩
   obtain ⟨s20, P20, q20, e20, P20', q20', e20', rfl, o20⟩ := o20.open_; have O20 := hide o20; clear o20
   have l20 : Later wr w20 := Later.trans lt_ b20
   have rl := RL0.out.later b20
   have RL := hide rl; have O21 := O20; have l21 := l20
   have q0 := rl.cell (i := 0) rfl; have q1 := rl.cell (i := 1) rfl; have q2 := rl.cell (i := 2) rfl; have q3 := rl.cell (i := 3) rfl
   have qz0 := rl.frozen 0; have qz1 := rl.frozen 1; have qz2 := rl.frozen 2; have qz3 := rl.frozen 3
   clear rl
   refine hK.out _ _ ?_ (fun hHeld => ?_)
   ·exact HT1.out _ lt_
   clear hK K
   try simp only [Act.put, s1_, s2_, s3_]
   refine tkB 70 9 ?_
   refine tkB 80 10 ?_
   refine tkB 81 11 ?_
   refine wpAnyN_ready (rs := [13]) (by kernel_rfl) (by simp) ?_
   refine AllReadyN.held rfl (by rfl) (fun K hK => ?_) AllReadyN.nil
   go_simp
   obtain ⟨wm, hwm⟩ : ∃ W, W = ((((w20.setCell ⟨gl, 0, none⟩ (.bool s20)).setCell ⟨gl, 1, none⟩ (.slice P20 q20 e20)).setCell ⟨gl, 2, none⟩ (.bool false)).setCell ⟨gl, 3, none⟩ (.slice P20' q20' e20')) := ⟨_, rfl⟩
   rw [<- hwm]
   have oo : Only gl w20 wm := by rw [hwm]; exact Only.four _ _ _ _ _ _
   have rm : Row wm gl 36 [.bool s20, .slice P20 q20 e20, .bool false, .slice P20' q20' e20'] := by rw [hwm]; exact RL.out.four _ _ _ _
   have l22 : Later wr wm := l21.only oo HGL.out
   have OM := hide (OwnR.keepU O21.out (KeepU.only oo RL.out tRat_u32)); have RM := hide rm
   clear hwm oo rm q0 q1 q2 q3 qz0 qz1 qz2 qz3
   refine hK.out _ _ ?_ (fun hHeld => ?_)
   ·exact HT1.out _ lt_
   clear hK K
   try simp only [Act.put, s1_, s2_, s3_]
   refine tkB 15 14 ?_
   refine wpAnyN_done (by kernel_rfl) ?_ _
   clear hHeld HT1 x0
   have HLm := hide (HL.out.trans l22)
   have HLw := hide l22
   have HRRm := hide (HRR.out.later l22)
   have rb := HB.out.b0.later HLm.out
   have p1 := rb.cell (i := 1) rfl
   have y0 := Later.cell (HL0.out.trans HLm.out) HX0.out
   have hel : On (wm.alloc (Obj.cells #[Value.slice rc.A rc.n rc.c] 22)) (fun b => (some b ≠ u12.ownBlock /\ b ≠ gs) /\ some b ≠ u11.ownBlock) (fun W => Rats (ERaw (k+1)) W (.slice rc.A rc.n rc.c) r.coef) := by
    have hut := HRR.out.u.lt; have htt := HRR.out.t.lt; have hb0 := HL0.out.size
    exact (((On.ratsRaw HE.out.coef).later ((HL0.out.trans HLm.out).alloc _)).mono (fun b hb _ => by
     have hb9 : b < w0.heap.size := hb
     exact ⟨⟨fun e => by have := (hut b e.symm).1; omega, by omega⟩, fun e => by have := (htt b e.symm).1; omega⟩)).map (fun W h => h.map fun v q _ h => RawR.mono h (by omega))
   have HEL := hide hel
   clear hel rb l20 l21 l22
   go_upto_region 19 with (at_builtin; refine wpList_append_row3 rfl _ _ rfl rfl (HRRm.out.t.later ((Later.refl _).alloc _)) rfl (Row.new wm 22 [.slice rc.A rc.n rc.c]) HEL.out (by have := HLMT.out; omega) (by rw [World.size_alloc]; have h1 := HLm.out.size; omega) ?_; intro v8_ wF k1 k2 k3)
   have HRF := hide (RR.growT (HRRm.out.later ((Later.refl wm).alloc _)) k1 k2)
   have htl := HRRm.out.t.lt
   have HLF : Hid (Later wB wF) := hide ((HLm.out.alloc _).grown k2 (fun q hq => (htl q hq).1))
   have HSF : Hid (wB.heap.size <= wF.heap.size) := hide HLF.out.size
   have htw := HRR.out.t.lt; have huw := HRR.out.u.lt
   have RF_ := hide ((RM.out.later ((Later.refl wm).alloc (Obj.cells #[Value.slice rc.A rc.n rc.c] 22))).grown k2 (fun e => by have := (htw gl e.symm).2; have := HGL.out; omega))
   have HUG : Hid (u12.ownBlock ≠ some gl) := hide (fun e => by have := (huw gl e).2; have := HGL.out; omega)
   have OF := hide (by
    obtain ⟨es, -, hown, -⟩ := (HRRm.out.later ((Later.refl wm).alloc (Obj.cells #[Value.slice rc.A rc.n rc.c] 22))).t
    exact OwnR.keepU OM.out ((KeepU.later ((Later.refl wm).alloc (Obj.cells #[Value.slice rc.A rc.n rc.c] 22))).trans (KeepU.grown k2 hown tRow_u32)))
   have HT1 : Hid (∀ w', Later wF w' -> w'.cell? ⟨g0, 1, none⟩ = some (.slice (some ⟨b3, off3, none⟩) n2 c2) /\ w'.cell? ⟨b3, off3 + j * 6 + 2, none⟩ = some (.bool rc.e.a) /\ w'.cell? ⟨b3, off3 + j * 6 + 3, none⟩ = some (.slice rc.e.A rc.e.n rc.e.c) /\ w'.cell? ⟨b3, off3 + j * 6 + 4, none⟩ = some (.bool rc.e.a') /\ w'.cell? ⟨b3, off3 + j * 6 + 5, none⟩ = some (.slice rc.e.A' rc.e.n' rc.e.c') /\ w'.cell? ⟨gl, 0, none⟩ = some (.bool s20) /\ w'.cell? ⟨gl, 1, none⟩ = some (.slice P20 q20 e20) /\ w'.cell? ⟨gl, 2, none⟩ = some (.bool false) /\ w'.cell? ⟨gl, 3, none⟩ = some (.slice P20' q20' e20')) := hide fun w' hb => by
    obtain ⟨y2, y3, y4, y5⟩ := HPC.out
    have hl0 := HL0.out.trans (HLF.out.trans hb)
    have r31 := HB.out.b0.later (HLF.out.trans hb)
    have rg := RF_.out.later hb
    exact ⟨r31.cell rfl, Later.cell hl0 y2, Later.cell hl0 y3, Later.cell hl0 y4, Later.cell hl0 y5, rg.cell rfl, rg.cell rfl, rg.cell rfl, rg.cell rfl⟩
   clear k1 k2 k3 htl htw huw HRRm HEL HLw HLm RM OM p1 y0
   have hmx : Tryz.prog.follows .mixedOrders = true := by kernel_rfl
   refine wp_region_N (fun w' => w'.cell? ⟨g0, 1, none⟩ = some (.slice (some ⟨b3, off3, none⟩) n2 c2) /\ w'.cell? ⟨b3, off3 + j * 6 + 2, none⟩ = some (.bool rc.e.a) /\ w'.cell? ⟨b3, off3 + j * 6 + 3, none⟩ = some (.slice rc.e.A rc.e.n rc.e.c) /\ w'.cell? ⟨b3, off3 + j * 6 + 4, none⟩ = some (.bool rc.e.a') /\ w'.cell? ⟨b3, off3 + j * 6 + 5, none⟩ = some (.slice rc.e.A' rc.e.n' rc.e.c') /\ w'.cell? ⟨gl, 0, none⟩ = some (.bool s20) /\ w'.cell? ⟨gl, 1, none⟩ = some (.slice P20 q20 e20) /\ w'.cell? ⟨gl, 2, none⟩ = some (.bool false) /\ w'.cell? ⟨gl, 3, none⟩ = some (.slice P20' q20' e20')) [] hmx (HT1.out _ lt_) (fun hHeld => ?_)
   refine tkB 91 0 ?_
   refine tkB 92 1 ?_
   refine tkB 93 2 ?_
   refine tkB 94 3 ?_
   refine tkB 95 4 ?_
   refine tkB 96 5 ?_
   refine tkB 97 6 ?_
   refine tkB 98 7 ?_
   refine wpAnyN_ready (rs := [8]) (by kernel_rfl) (by simp) ?_
   refine AllReadyN.held rfl (by rfl) (fun K hK => ?_) AllReadyN.nil
   go_simp
   refine (qsub_calls _ _ _ r.rhs (dotL r.coef P.lo) k 200000 (RawR.later HERW.out (HL0.out.trans (HLF.out.trans lt_))) (OwnR.raw (OwnR.later OF.out lt_) HSD.out) (by omega)).mono ?_
   rintro e w30 ⟨v30_, rfl, o30, b30⟩
   obtain ⟨s30, P30, q30, e30, P30', q30', e30', rfl, o30⟩ := o30.open_; have O30 := hide o30; clear o30
   have l30 : Later wF w30 := Later.trans lt_ b30
   refine hK.out _ _ ?_ (fun hHeld => ?_)
   ·exact HT1.out _ lt_
   clear hK K
   try simp only [Act.put, s1_, s2_, s3_]
   refine wpAnyN_ready (rs := [9]) (by kernel_rfl) (by simp) ?_
   refine AllReadyN.held rfl (by rfl) (fun K hK => ?_) AllReadyN.nil
   go_simp
   refine hK.out _ _ ?_ (fun hHeld => ?_)
   ·exact HT1.out _ lt_
   clear hK K
   try simp only [Act.put, s1_, s2_, s3_]
   refine wpAnyN_ready (rs := [10]) (by kernel_rfl) (by simp) ?_
   refine AllReadyN.held rfl (by rfl) (fun K hK => ?_) AllReadyN.nil
   refine wp_append_rowu _ _ rfl rfl (HRF.out.u.later (l30.alloc _)) rfl (Row.new w30 36 [.bool s30, .slice P30 q30 e30, .bool false, .slice P30' q30' e30']) (OwnR.later O30.out ((Later.refl w30).alloc _)) (by have := HLM.out; omega) (by rw [World.size_alloc]; have h1 := HSF.out; have h2 := l30.size; omega) ?_
   intro v31_ w31 k1 k2 k3
   have hRX := RR.growU (HRF.out.later (l30.alloc (Obj.cells #[Value.bool s30, Value.slice P30 q30 e30, Value.bool false, Value.slice P30' q30' e30'] 36))) k1 k2 k3
   have hlu := HRF.out.u.lt
   have hl31 : Later wB w31 := ((HLF.out.trans l30).alloc _).grown k2 (fun q hq => (hlu q hq).1)
   obtain ⟨y2, y3, y4, y5⟩ := HPC.out
   have r31 := HB.out.b0.later hl31
   have hl0 := HL0.out.trans hl31
   have rg31 := (RF_.out.later (l30.alloc (Obj.cells #[Value.bool s30, Value.slice P30 q30 e30, Value.bool false, Value.slice P30' q30' e30'] 36))).grown k2 (fun e => HUG.out e.symm)
   have HT3 : Hid (w31.cell? ⟨g0, 1, none⟩ = some (.slice (some ⟨b3, off3, none⟩) n2 c2) /\ w31.cell? ⟨b3, off3 + j * 6 + 2, none⟩ = some (.bool rc.e.a) /\ w31.cell? ⟨b3, off3 + j * 6 + 3, none⟩ = some (.slice rc.e.A rc.e.n rc.e.c) /\ w31.cell? ⟨b3, off3 + j * 6 + 4, none⟩ = some (.bool rc.e.a') /\ w31.cell? ⟨b3, off3 + j * 6 + 5, none⟩ = some (.slice rc.e.A' rc.e.n' rc.e.c') /\ w31.cell? ⟨gl, 0, none⟩ = some (.bool s20) /\ w31.cell? ⟨gl, 1, none⟩ = some (.slice P20 q20 e20) /\ w31.cell? ⟨gl, 2, none⟩ = some (.bool false) /\ w31.cell? ⟨gl, 3, none⟩ = some (.slice P20' q20' e20')) := hide ⟨r31.cell rfl, Later.cell hl0 y2, Later.cell hl0 y3, Later.cell hl0 y4, Later.cell hl0 y5, rg31.cell rfl, rg31.cell rfl, rg31.cell rfl, rg31.cell rfl⟩
   have HRX := hide hRX; have HL31 := hide hl31
   clear k1 k2 k3 hRX hlu y2 y3 y4 y5 r31 hl0 hl31 rg31
   refine hK.out _ _ ?_ (fun hHeld => ?_)
   ·exact HT3.out
   clear hK K
   try simp only [Act.put, s1_, s2_, s3_]
   refine tkB 12 11 ?_
   refine wpAnyN_done (by kernel_rfl) ?_ _
   clear hHeld HT1 HT3
   go_wp2_with fail
   exact ⟨⟨j+1, by omega, by go_num, by rw [HT9.out.1, HT9.out.2]; exact HRX.out, HL31.out⟩, by simp [intOf]; omega⟩
  ·have hj1 : ¬ (j : Int) < n2 := by omega
   have hjn9 : j = n2 := by omega
   have hTT : ((P.rows.take j).map (·.coef)) = P.rows.map (·.coef) := by rw [List.take_of_length_le (by have := L2.out; omega)]
   have hUU : ((P.rows.take j).map fun r => r.rhs - dotL r.coef P.lo) = P.rows.map (fun r => r.rhs - dotL r.coef P.lo) := by rw [List.take_of_length_le (by have := L2.out; omega)]
   have hrr := HRR.out
   rw [hTT, hUU] at hrr
   have HR9 := hide hrr
   clear hTT hUU hrr
   go_upto_if 67 with fail
   go_step
   go_step
   simp only [Exit.then, Exit.inBlock]
   apply_assumption
   exact rstd_C w0 wB wr _ _ _ _ _ _ _ _ _ _ _ _ _ _ _ k P H.out HP.out g0 g2 g3 gs lo _ _ _ _ _ _ _ _ _ _ _ _ HL0.out HB.out _ _ HR9.out HL.out hg2 hg3 hgs0 hg2s ds _ _ _ _ _ _ _ _ _ _ _ _ _ _ _ _ _ _ _ _ _ _ _ _ _ _ _ _ _ _ _ _ _ _ _ _ _ _ _ _ _ _ _ _ _ _ _ _ _ _ _ _ _ _ _ _ _ _ _ _ _ _ _ _ _ _ _ _ _ _ _ _ _ _ _ _ _ _ _ _ _ _ _ _ _ _ _ _ _ _ _ _ _ _ _ _ _ _ _ _ _ _ _ _ _ _ _ _ _ _ _ _ _ _ _ _ _ _ _ _ _ _ _ _ _ _ _ _ _ _ _ _ _ _ _ _ _ _ _ _ _ _ _ _ _ _ _ _ _ _ _ _ _ _ _ _ _ _ _ _ _ _ _ _ _ _ _ _ _ _ _ _ _ _ _ _ _ _ _ _ _ _ _ _ _ _ _ _ _ _ _ _ _ _ _ _ _ _ _ _ _ _ _ _ _ _ _ _ _ _ _ _  R HQ.out
end Go.Proofs.YtfokplidiboabaaGreat
