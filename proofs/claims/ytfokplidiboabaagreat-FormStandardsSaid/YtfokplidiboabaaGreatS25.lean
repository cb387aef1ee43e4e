/- Problems: awake (the laws). -/
import Derived.Test.YtfokplidiboabaaGreatS24
import Derived.Test.YtfokplidiboabaaGreatS8
set_option linter.unusedVariables false
set_option linter.unusedSimpArgs false
set_option maxRecDepth 100000
namespace Go.Proofs.YtfokplidiboabaaGreat
open Go.RowKit Go.Shelf
attribute [local go_sem ↓] Go.wp_at_zero Go.wp_at_succ
def awP : PLp := ⟨[1], [⟨[1], 2, 2, true⟩], [0], [0], [true], true⟩
def noP : PLp := ⟨[], [], [], [], [], true⟩
theorem awP_may : lpB awP = true := lpB_iff.2
 {n1 := by decide, n24 := by decide, lo := rfl, hi := rfl, opn := rfl, rl := by decide, f := rfl
  rows := fun r hr => by
   have : r = ⟨[1], 2, 2, true⟩ := by simpa [awP] using hr
   subst this; exact ⟨rfl, by decide, rfl⟩
  ends := fun j hj ho => by
   have : j = 0 := by have : j < 1 := hj; omega
   subst this; simp [awP] at ho }
theorem noP_may : lpB noP = false := lpB_not.2 fun h => absurd h.n1 (by decide)
theorem awP_A : stdA awP = [[1, -1]] := by decide +kernel
theorem awP_B : stdB awP = [2] := by decide +kernel
theorem awP_C : stdC awP = [1, 0] := by decide +kernel
theorem awP_rest : restV awP = 0 := by decide +kernel
theorem awP_back : backL awP [3, 1] = [3] := by decide +kernel
theorem awP_backB : backB awP [3, 1] = true := by unfold backB; rw [awP_may]; decide +kernel
theorem awP_cost : lpCost awP [3] = 3 := by unfold lpCost; rw [if_pos awP_may]; decide +kernel
theorem awP_costB : (lpB awP && decide (([3] : List Rat).length = awP.cost.length)) = true := by rw [awP_may]; rfl
theorem awP_ful : fulfL awP [3] = true := by unfold fulfL; rw [awP_may]; decide +kernel
theorem awP_nful : fulfL awP [1] = false := by unfold fulfL; rw [awP_may]; decide +kernel
theorem awP_right : rightB [[1, -1]] [2] [1, 0] true = true := by decide +kernel
theorem lrows_one {E : RowE} {w : World} {g : Nat} {x : PRow} {r : WCells} (hr : Row w g 60 (r.cells x.sense)) (h : E w r x) : LRows E w (.slice (some ⟨g, 0, none⟩) 1 1) [x] := by
 refine ⟨_, 1, rfl, Nat.le_refl _, by decide, fun i y hi => ?_⟩
 match i, hi with
 | 0, hi =>
   have : x = y := by simpa using hi
   subst this
   exact ⟨g, 0, rfl, r, fun j u hj => by simpa using hr.cell hj, h⟩
theorem bools_one {w : World} {g : Nat} {b : Bool} (hr : Row w g 4 [.bool b]) : Bools w (.slice (some ⟨g, 0, none⟩) 1 1) [b] := by
 refine ⟨_, 1, rfl, Nat.le_refl _, by decide, fun i y hi => ?_⟩
 match i, hi with
 | 0, hi =>
   have : b = y := by simpa using hi
   subst this
   exact ⟨g, 0, rfl, hr.cell rfl⟩
theorem rats1_flags {w : World} {v : Value} {l : List Rat} (h : Rats EOwn w v l) (hs : ∀ q ∈ l, Sized q 1) : Rats EFlag w v (List.replicate l.length 1) := rats_own_flags h fun q hq => (hs q hq).mono (by omega)
theorem rowS_own {w : World} {r : WCells} {coef : List Rat} {s : Int} {rhs : Rat} (h1 : Rats EOwn w r.coef coef) (h2 : EOwn w r.e.val rhs) (s1 : ∀ q ∈ coef, Sized q 1) (s2 : Sized rhs 1) (hl : coef.length <= 1000) (hs : IFit_ s) : ERowS 1 w r ⟨coef, s, rhs, true⟩ :=
 {coef := Own.raw1 h1 s1, rhs := OwnR.raw (B := 0) h2 s2, cl := hl, sfit := hs, flags := ⟨_, _, rats1_flags h1 s1, EFlag.of_own (B := 0) h2 (s2.mono (by omega)), by rw [allF_ones]; rfl⟩ }
theorem lp_own {w : World} {vC vR vL vH vO : Value} {cost lo hi : List Rat} {rows : List PRow} {opn : List Bool} (h1 : Rats EOwn w vC cost) (h2 : LRows (ERow 1) w vR rows) (h3 : Rats EOwn w vL lo) (h4 : Rats EOwn w vH hi) (h5 : Bools w vO opn)
 (s1 : ∀ q ∈ cost, Sized q 1) (s3 : ∀ q ∈ lo, Sized q 1) (s4 : ∀ q ∈ hi, Sized q 1) (l1 : cost.length <= 1000) (l2 : rows.length <= 1000) (l3 : lo.length <= 1000) (l4 : hi.length <= 1000) (l5 : opn.length <= 1000) : LpIn w vC vR vL vH vO 1 ⟨cost, rows, lo, hi, opn, true⟩ :=
 {cost := Own.raw1 h1 s1, rows := h2, lo := Own.raw1 h3 s3, hi := Own.raw1 h4 s4, opn := h5, flags := ⟨_, _, _, rats1_flags h1 s1, rats1_flags h3 s3, rats1_flags h4 s4, by rw [allF_ones, allF_ones, allF_ones]; rfl⟩, kk := by omega, cl := l1, rl := l2, ll := l3, hl := l4, ol := l5 }
theorem lp_none (w : World) : LpIn w (.slice none 0 0) (.slice none 0 0) (.slice none 0 0) (.slice none 0 0) (.slice none 0 0) 1 noP :=
 lp_own (rats_nil _ _) (LRows.nil _ _) (rats_nil _ _) (rats_nil _ _) ⟨none, 0, rfl, Nat.le_refl _, by decide, fun i x h => by simp at h⟩ (by simp) (by simp) (by simp) (by simp) (by simp) (by simp) (by simp) (by simp)
set_option maxHeartbeats 32000000 in
theorem awake11_tail (w0 wr : World) (A1 A2 A3 A4 A5 : Option Addr) (n1 n2 n3 n4 n5 c1 c2 c3 c4 c5 : Nat) (gp gs gr gc : Nat) (AA AB AC A8 : Option Addr) (nA nB nC n8 cA cB cC c8 : Nat) (sr sr' sk sk' : Bool) (Pr Pr' Pk Pk' : Option Addr) (qr er qr' er' qk ek qk' ek' : Nat)
 (hi : LpIn wr (.slice A1 n1 c1) (.slice A2 n2 c2) (.slice A3 n3 c3) (.slice A4 n4 c4) (.slice A5 n5 c5) 1 awP) (hs : StdV wr awP (.slice AA nA cA) (.slice AB nB cB) (.slice AC nC cC) (.agg #[.bool sr, .slice Pr qr er, .bool sr', .slice Pr' qr' er'])) (hx : Rats EOwn wr (.slice A8 n8 c8) [3]) (hc : OwnR wr 0 (.agg #[.bool sk, .slice Pk qk ek, .bool sk', .slice Pk' qk' ek']) 3) (hb : Boxes wr [(gp, 26, [.slice A1 n1 c1, .slice A2 n2 c2, .slice A3 n3 c3, .slice A4 n4 c4, .slice A5 n5 c5]), (gs, 31, [.slice AA nA cA, .slice AB nB cB, .slice AC nC cC]), (gr, 36, [.bool sr, .slice Pr qr er, .bool sr', .slice Pr' qr' er']), (gc, 36, [.bool sk, .slice Pk qk ek, .bool sk', .slice Pk' qk' ek'])]) (hL : Later w0 wr)
 (v5 v6 v12 v13 v14 v15 v16 v17 v18 v19 v20 v21 v22 v23 v24 v25 v26 v27 v28 v29 v30 v31 v32 v33 v34 v35 v36 v37 v38 v39 v40 v41 v42 v43 v44 v45 v46 v47 v48 v49 v50 v51 v52 v53 v54 v55 v56 v57 v58 v59 v60 v61 v62 v63 v64 v65 v66 v67 v68 v69 v70 v71 v72 v73 v74 v75 v76 v77 v78 v79 v80 v81 v82 v83 v84 v85 v86 v87 v88 v89 v90 v91 v92 v93 v94 v95 v96 v97 v98 v99 v100 v101 v102 v103 v104 v105 v106 v107 v108 v109 v110 v111 v112 v113 v114 v115 v116 : Value) (R : Act -> World -> Prop) (hQ : ∀ (a' : Act) (w' : World), a'.defers = [] -> a'.tmps[0]?.getD undef = .bool true -> Later w0 w' -> R a' w') :
 Code.wp Tryz.prog (sSnd (sSnd (sSnd (sSnd (sSnd (sSnd (Tryz.f15.body.getD .skip))))))) (retOnly R) { tmps := #[.bool false, .pointer (some ⟨gp, 0, none⟩), .pointer (some ⟨gs, 0, none⟩), .pointer (some ⟨gr, 0, none⟩), .int .i64 0, v5, v6, .int .i64 1, .slice A8 n8 c8, .int .i64 0, .pointer (some ⟨gc, 0, none⟩), .bool true, v12, v13, v14, v15, v16, v17, v18, v19, v20, v21, v22, v23, v24, v25, v26, v27, v28, v29, v30, v31, v32, v33, v34, v35, v36, v37, v38, v39, v40, v41, v42, v43, v44, v45, v46, v47, v48, v49, v50, v51, v52, v53, v54, v55, v56, v57, v58, v59, v60, v61, v62, v63, v64, v65, v66, v67, v68, v69, v70, v71, v72, v73, v74, v75, v76, v77, v78, v79, v80, v81, v82, v83, v84, v85, v86, v87, v88, v89, v90, v91, v92, v93, v94, v95, v96, v97, v98, v99, v100, v101, v102, v103, v104, v105, v106, v107, v108, v109, v110, v111, v112, v113, v114, v115, v116], defers := [] } wr := by
 obtain ⟨CT, hCT⟩ : ∃ C, C = (sSnd (sSnd (sSnd (sSnd (sSnd (sSnd (Tryz.f15.body.getD .skip))))))) := ⟨_, rfl⟩
 rw [<- hCT]
 conv at hCT => rhs; whnf
 subst hCT
 have HI0 := hide hi; have HX0 := hide hx; have HC0 := hide hc; have HB0 := hide hb; have HL := hide hL; have HQ := hide hQ
 have HS0 : Hid (StdS wr (.slice AA nA cA) (.slice AB nB cB) (.slice AC nC cC) [[1, -1]] [2] [1, 0]) := hide (by
  have h1 := hs.a; have h2 := hs.b; have h3 := hs.c
  rw [awP_A] at h1; rw [awP_B] at h2; rw [awP_C] at h3
  exact ⟨h1, h2, h3, fun r hr q hq => (sized_list1 (l := r) (by simp at hr; subst hr; simp) q hq).mono (by omega), fun q hq => (sized_list1 (by simp) q hq).mono (by omega), fun q hq => (sized_list1 (by simp) q hq).mono (by omega), by simp, by simp, by simp, by simp⟩)
 have HR0 : Hid (OwnR wr 0 (.agg #[.bool sr, .slice Pr qr er, .bool sr', .slice Pr' qr' er']) 0) := hide (by have h1 := hs.r; rw [awP_rest] at h1; exact h1)
 clear hi hs hx hc hb hL hQ
 go_wp2_with fail
 refine (of11_calls _ 1 (by omega) (by omega) 1 div_1).mono ?_
 rintro e w21 ⟨v21, rfl, o21, b21⟩
 obtain ⟨s21, P21, q21, e21, P21', q21', e21', rfl, o21⟩ := o21.open_; have O21 := hide o21; clear o21
 go_wp2_with fail
 refine (of11_calls _ (-1) (by omega) (by omega) (-1) div_m1).mono ?_
 rintro e w22 ⟨v22, rfl, o22, b22⟩
 obtain ⟨s22, P22, q22, e22, P22', q22', e22', rfl, o22⟩ := o22.open_; have O22 := hide o22; clear o22
 go_wp2_with fail
 refine (of11_calls _ 2 (by omega) (by omega) 2 div_2).mono ?_
 rintro e w23 ⟨v23, rfl, o23, b23⟩
 obtain ⟨s23, P23, q23, e23, P23', q23', e23', rfl, o23⟩ := o23.open_; have O23 := hide o23; clear o23
 go_wp2_with fail
 refine (of11_calls _ 1 (by omega) (by omega) 1 div_1).mono ?_
 rintro e w24 ⟨v24, rfl, o24, b24⟩
 obtain ⟨s24, P24, q24, e24, P24', q24', e24', rfl, o24⟩ := o24.open_; have O24 := hide o24; clear o24
 go_wp2_with fail
 refine (of11_calls _ 0 (by omega) (by omega) 0 div_0).mono ?_
 rintro e w25 ⟨v25, rfl, o25, b25⟩
 obtain ⟨s25, P25, q25, e25, P25', q25', e25', rfl, o25⟩ := o25.open_; have O25 := hide o25; clear o25
 go_upto_region 7 with fail
 obtain ⟨wx, hwx⟩ : ∃ wx, wx = (w25.alloc (Obj.cells #[Value.bool s24, Value.slice P24 q24 e24, Value.bool false, Value.slice P24' q24' e24', Value.bool s25, Value.slice P25 q25 e25, Value.bool false, Value.slice P25' q25' e25'] 36)).alloc (Obj.cells #[Value.slice (some ⟨w22.heap.size + 1, 0, none⟩) 1 1, Value.slice (some ⟨w23.heap.size, 0, none⟩) 1 1, Value.slice (some ⟨w25.heap.size, 0, none⟩) 2 2] 31) := ⟨_, rfl⟩
 have k5 : Later w25 wx := by rw [hwx]; exact ((Later.refl _).alloc _).alloc _
 have k24 : Later w24 wx := b25.trans k5
 have k4 := b24.trans k24
 have k23 : Later w23 wx := (((Later.refl _).alloc _)).trans k4
 have k3 := b23.trans k23
 have k22 : Later w22 wx := (((Later.refl _).alloc _).alloc _).trans k3
 have k21 : Later w21 wx := b22.trans k22
 have kx : Later wr wx := b21.trans k21
 have r1 : Row wx w22.heap.size 36 [.bool s21, .slice P21 q21 e21, .bool false, .slice P21' q21' e21', .bool s22, .slice P22 q22 e22, .bool false, .slice P22' q22' e22'] := ((Row.new w22 _ _).alloc _).later k3
 have r2 : Row wx (w22.heap.size + 1) 22 [.slice (some ⟨w22.heap.size, 0, none⟩) 2 2] := (row_new1 w22 _ _ _).later k3
 have r3 : Row wx w23.heap.size 36 [.bool s23, .slice P23 q23 e23, .bool false, .slice P23' q23' e23'] := (Row.new _ _ _).later k4
 have r4 : Row wx w25.heap.size 36 [.bool s24, .slice P24 q24 e24, .bool false, .slice P24' q24' e24', .bool s25, .slice P25 q25 e25, .bool false, .slice P25' q25' e25'] := by rw [hwx]; exact (Row.new _ _ _).alloc _
 have r5 : Row wx (w25.heap.size + 1) 31 [.slice (some ⟨w22.heap.size + 1, 0, none⟩) 1 1, .slice (some ⟨w23.heap.size, 0, none⟩) 1 1, .slice (some ⟨w25.heap.size, 0, none⟩) 2 2] := by rw [hwx]; exact row_new1 _ _ _ _
 have hw : StdS wx (.slice (some ⟨w22.heap.size + 1, 0, none⟩) 1 1) (.slice (some ⟨w23.heap.size, 0, none⟩) 1 1) (.slice (some ⟨w25.heap.size, 0, none⟩) 2 2) [[1, -1]] [2] [1, 0] :=
  ⟨tab_one r2 (rats_two (E := EOwn) r1 (OwnR.weaken (OwnR.later O21.out k21) (Nat.zero_le _)) (OwnR.weaken (OwnR.later O22.out k22) (Nat.zero_le _))), rats_one (E := EOwn) r3 (OwnR.weaken (OwnR.later O23.out k23) (Nat.zero_le _)), rats_two (E := EOwn) r4 (OwnR.weaken (OwnR.later O24.out k24) (Nat.zero_le _)) (OwnR.weaken (OwnR.later O25.out k5) (Nat.zero_le _)), fun r hr q hq => (sized_list1 (l := r) (by simp at hr; subst hr; simp) q hq).mono (by omega), fun q hq => (sized_list1 (by simp) q hq).mono (by omega), fun q hq => (sized_list1 (by simp) q hq).mono (by omega), by simp, by simp, by simp, by simp⟩
 rw [<- hwx]
 obtain ⟨gw, hgw⟩ : ∃ g, g = w25.heap.size + 1 := ⟨_, rfl⟩
 obtain ⟨ga, hga⟩ : ∃ g, g = w22.heap.size + 1 := ⟨_, rfl⟩
 obtain ⟨gb, hgb⟩ : ∃ g, g = w23.heap.size := ⟨_, rfl⟩
 obtain ⟨gcc, hgcc⟩ : ∃ g, g = w25.heap.size := ⟨_, rfl⟩
 rw [<- hgw] at r5 ⊢
 rw [<- hga, <- hgb, <- hgcc] at hw r5
 have HW := hide hw; have RW := hide r5; have HLx := hide kx
 have HI := hide (HI0.out.later kx); have HS := hide (HS0.out.later kx); have HX := hide (HX0.out.later EOwn.later kx); have HC := hide (OwnR.later HC0.out kx); have HR := hide (OwnR.later HR0.out kx); have HB := hide (HB0.out.later kx)
 have HSI : Hid (StdIn wx (.slice AA nA cA) (.slice AB nB cB) (.slice AC nC cC) 1 [[1, -1]] [2] [1, 0] true) := hide (std_own HS.out.a HS.out.b HS.out.c (fun r hr => sized_list1 (l := r) (by simp at hr; subst hr; simp)) (sized_list1 (by simp)) (sized_list1 (by simp)) (by simp) (by simp) (by simp) (by simp))
 clear b21 b22 b23 b24 b25 O21 O22 O23 O24 O25 r1 r2 r3 r4 r5 k5 k24 k4 k23 k3 k22 k21 kx hw hwx hgw hga hgb hgcc HI0 HS0 HX0 HC0 HR0 HB0
 have HT7 : Hid (∀ w', Later wx w' -> w'.cell? ⟨gp, 0, none⟩ = some (.slice A1 n1 c1) /\ w'.cell? ⟨gp, 1, none⟩ = some (.slice A2 n2 c2) /\ w'.cell? ⟨gp, 2, none⟩ = some (.slice A3 n3 c3) /\ w'.cell? ⟨gp, 3, none⟩ = some (.slice A4 n4 c4) /\ w'.cell? ⟨gp, 4, none⟩ = some (.slice A5 n5 c5) /\ w'.cell? ⟨gs, 0, none⟩ = some (.slice AA nA cA) /\ w'.cell? ⟨gs, 1, none⟩ = some (.slice AB nB cB) /\ w'.cell? ⟨gs, 2, none⟩ = some (.slice AC nC cC) /\ w'.cell? ⟨gw, 0, none⟩ = some (.slice (some ⟨ga, 0, none⟩) 1 1) /\ w'.cell? ⟨gw, 1, none⟩ = some (.slice (some ⟨gb, 0, none⟩) 1 1) /\ w'.cell? ⟨gw, 2, none⟩ = some (.slice (some ⟨gcc, 0, none⟩) 2 2) /\ w'.cell? ⟨gr, 0, none⟩ = some (.bool sr) /\ w'.cell? ⟨gr, 1, none⟩ = some (.slice Pr qr er) /\ w'.cell? ⟨gr, 2, none⟩ = some (.bool sr') /\ w'.cell? ⟨gr, 3, none⟩ = some (.slice Pr' qr' er') /\ w'.cell? ⟨gc, 0, none⟩ = some (.bool sk) /\ w'.cell? ⟨gc, 1, none⟩ = some (.slice Pk qk ek) /\ w'.cell? ⟨gc, 2, none⟩ = some (.bool sk') /\ w'.cell? ⟨gc, 3, none⟩ = some (.slice Pk' qk' ek')) := hide fun W hW => by
  have h1 : Row W gp 26 [.slice A1 n1 c1, .slice A2 n2 c2, .slice A3 n3 c3, .slice A4 n4 c4, .slice A5 n5 c5] := HB.out.later hW _ (List.mem_cons_self ..)
  have h2 : Row W gs 31 [.slice AA nA cA, .slice AB nB cB, .slice AC nC cC] := HB.out.later hW _ (List.mem_cons_of_mem _ (List.mem_cons_self ..))
  have h3 : Row W gr 36 [.bool sr, .slice Pr qr er, .bool sr', .slice Pr' qr' er'] := HB.out.later hW _ (List.mem_cons_of_mem _ (List.mem_cons_of_mem _ (List.mem_cons_self ..)))
  have h4 : Row W gc 36 [.bool sk, .slice Pk qk ek, .bool sk', .slice Pk' qk' ek'] := HB.out.later hW _ (List.mem_cons_of_mem _ (List.mem_cons_of_mem _ (List.mem_cons_of_mem _ (List.mem_cons_self ..))))
  have h5 := RW.out.later hW
  exact ⟨h1.cell (i := 0) rfl, h1.cell (i := 1) rfl, h1.cell (i := 2) rfl, h1.cell (i := 3) rfl, h1.cell (i := 4) rfl, h2.cell (i := 0) rfl, h2.cell (i := 1) rfl, h2.cell (i := 2) rfl, h5.cell (i := 0) rfl, h5.cell (i := 1) rfl, h5.cell (i := 2) rfl, h3.cell (i := 0) rfl, h3.cell (i := 1) rfl, h3.cell (i := 2) rfl, h3.cell (i := 3) rfl, h4.cell (i := 0) rfl, h4.cell (i := 1) rfl, h4.cell (i := 2) rfl, h4.cell (i := 3) rfl⟩
 have hmx : Tryz.prog.follows .mixedOrders = true := by kernel_rfl
 refine wp_region_N (fun w' => w'.cell? ⟨gp, 0, none⟩ = some (.slice A1 n1 c1) /\ w'.cell? ⟨gp, 1, none⟩ = some (.slice A2 n2 c2) /\ w'.cell? ⟨gp, 2, none⟩ = some (.slice A3 n3 c3) /\ w'.cell? ⟨gp, 3, none⟩ = some (.slice A4 n4 c4) /\ w'.cell? ⟨gp, 4, none⟩ = some (.slice A5 n5 c5) /\ w'.cell? ⟨gs, 0, none⟩ = some (.slice AA nA cA) /\ w'.cell? ⟨gs, 1, none⟩ = some (.slice AB nB cB) /\ w'.cell? ⟨gs, 2, none⟩ = some (.slice AC nC cC) /\ w'.cell? ⟨gw, 0, none⟩ = some (.slice (some ⟨ga, 0, none⟩) 1 1) /\ w'.cell? ⟨gw, 1, none⟩ = some (.slice (some ⟨gb, 0, none⟩) 1 1) /\ w'.cell? ⟨gw, 2, none⟩ = some (.slice (some ⟨gcc, 0, none⟩) 2 2) /\ w'.cell? ⟨gr, 0, none⟩ = some (.bool sr) /\ w'.cell? ⟨gr, 1, none⟩ = some (.slice Pr qr er) /\ w'.cell? ⟨gr, 2, none⟩ = some (.bool sr') /\ w'.cell? ⟨gr, 3, none⟩ = some (.slice Pr' qr' er') /\ w'.cell? ⟨gc, 0, none⟩ = some (.bool sk) /\ w'.cell? ⟨gc, 1, none⟩ = some (.slice Pk qk ek) /\ w'.cell? ⟨gc, 2, none⟩ = some (.bool sk') /\ w'.cell? ⟨gc, 3, none⟩ = some (.slice Pk' qk' ek')) [] hmx (HT7.out _ lt_) (fun hHeld => ?_)
 refine tkB 63 0 ?_
 refine tkB 64 1 ?_
 refine tkB 65 2 ?_
 refine tkB 66 3 ?_
 refine tkB 67 4 ?_
 refine wpAnyN_ready (rs := [5]) (by kernel_rfl) (by simp) ?_
 refine AllReadyN.held rfl (by rfl) (fun K hK => ?_) AllReadyN.nil
 go_simp
 refine (ssame_calls _ _ _ _ _ _ _ [[1, -1]] [[1, -1]] [2] [1, 0] [2] [1, 0] (HS.out.later lt_) (HW.out.later lt_) true (by decide +kernel)).mono ?_
 rintro e w105 ⟨rfl, b105⟩
 have l5 : Later wx w105 := Later.trans lt_ b105
 refine hK.out _ _ ?_ (fun hHeld => ?_)
 ·exact HT7.out _ lt_
 clear hK K
 try simp only [Act.put, s1_, s2_, s3_]
 refine tkB 69 6 ?_
 refine tkB 70 7 ?_
 refine tkB 71 8 ?_
 refine wpAnyN_ready (rs := [9]) (by kernel_rfl) (by simp) ?_
 refine AllReadyN.held rfl (by rfl) (fun K hK => ?_) AllReadyN.nil
 go_simp
 refine (of11_calls _ 0 (by omega) (by omega) 0 div_0).mono ?_
 rintro e w109 ⟨v109, rfl, o109, b109⟩
 obtain ⟨s109, P109, q109, e109, P109', q109', e109', rfl, o109⟩ := o109.open_; have O109 := hide o109; clear o109
 have l9 : Later wx w109 := Later.trans lt_ b109
 refine hK.out _ _ ?_ (fun hHeld => ?_)
 ·exact HT7.out _ lt_
 clear hK K
 try simp only [Act.put, s1_, s2_, s3_]
 refine wpAnyN_ready (rs := [10]) (by kernel_rfl) (by simp) ?_
 refine AllReadyN.held rfl (by rfl) (fun K hK => ?_) AllReadyN.nil
 go_simp
 refine (qsame_calls _ _ _ 0 0 0 0 1 1 (OwnR.later HR.out lt_) ((OwnR.later O109.out lt_).weaken (Nat.zero_le _)) sized_0 sized_0 (by omega) (by omega) true (by decide)).mono ?_
 rintro e w110 ⟨rfl, b110⟩
 have l10 : Later wx w110 := Later.trans lt_ b110
 refine hK.out _ _ ?_ (fun hHeld => ?_)
 ·exact HT7.out _ lt_
 clear hK K
 try simp only [Act.put, s1_, s2_, s3_]
 refine tkB 74 11 ?_
 refine tkB 75 12 ?_
 refine tkB 76 13 ?_
 refine tkB 77 14 ?_
 refine tkB 78 15 ?_
 refine tkB 79 16 ?_
 refine tkB 80 17 ?_
 refine tkB 81 18 ?_
 refine tkB 82 19 ?_
 refine tkB 83 20 ?_
 refine tkB 84 21 ?_
 refine wpAnyN_ready (rs := [22]) (by kernel_rfl) (by simp) ?_
 refine AllReadyN.held rfl (by rfl) (fun K hK => ?_) AllReadyN.nil
 go_simp
 refine (of11_calls _ 3 (by omega) (by omega) 3 div_3).mono ?_
 rintro e w122 ⟨v122, rfl, o122, b122⟩
 obtain ⟨s122, P122, q122, e122, P122', q122', e122', rfl, o122⟩ := o122.open_; have O122 := hide o122; clear o122
 have l22 : Later wx w122 := Later.trans lt_ b122
 refine hK.out _ _ ?_ (fun hHeld => ?_)
 ·exact HT7.out _ lt_
 clear hK K
 try simp only [Act.put, s1_, s2_, s3_]
 refine wpAnyN_ready (rs := [23]) (by kernel_rfl) (by simp) ?_
 refine AllReadyN.held rfl (by rfl) (fun K hK => ?_) AllReadyN.nil
 go_simp
 refine hK.out _ _ ?_ (fun hHeld => ?_)
 ·exact HT7.out _ lt_
 clear hK K
 try simp only [Act.put, s1_, s2_, s3_]
 refine wpAnyN_ready (rs := [24]) (by kernel_rfl) (by simp) ?_
 refine AllReadyN.held rfl (by rfl) (fun K hK => ?_) AllReadyN.nil
 go_simp
 refine (lsame_calls _ _ _ [3] [3] 1 1 (HX.out.later EOwn.later lt_) (rats_one (E := EOwn) (Row.new w122 _ _) ((OwnR.later O122.out lt_).weaken (Nat.zero_le _))) (sized_list1 (by simp)) (sized_list1 (by simp)) (by omega) (by omega) (by simp) true (by simp)).mono ?_
 rintro e w124 ⟨rfl, b124⟩
 have l24 : Later wx w124 := Later.trans lt_ b124
 refine hK.out _ _ ?_ (fun hHeld => ?_)
 ·exact HT7.out _ lt_
 clear hK K
 try simp only [Act.put, s1_, s2_, s3_]
 refine tkB 88 25 ?_
 refine tkB 89 26 ?_
 refine tkB 90 27 ?_
 refine wpAnyN_ready (rs := [28]) (by kernel_rfl) (by simp) ?_
 refine AllReadyN.held rfl (by rfl) (fun K hK => ?_) AllReadyN.nil
 go_simp
 refine (pmay_calls _ _ _ _ _ _ _ _ _ _ _ _ _ _ _ _ 1 awP (HI.out.later lt_)).mono ?_
 rintro e w128 ⟨rfl, b128⟩
 rw [awP_may]
 have l28 : Later wx w128 := Later.trans lt_ b128
 refine hK.out _ _ ?_ (fun hHeld => ?_)
 ·exact HT7.out _ lt_
 clear hK K
 try simp only [Act.put, s1_, s2_, s3_]
 refine tkB 92 29 ?_
 refine tkB 93 30 ?_
 refine tkB 94 31 ?_
 refine wpAnyN_ready (rs := [32]) (by kernel_rfl) (by simp) ?_
 refine AllReadyN.held rfl (by rfl) (fun K hK => ?_) AllReadyN.nil
 go_simp
 refine (right_std (HSI.out.later lt_)).mono ?_
 rintro e w132 ⟨rfl, b132⟩
 rw [awP_right]
 have l32 : Later wx w132 := Later.trans lt_ b132
 refine hK.out _ _ ?_ (fun hHeld => ?_)
 ·exact HT7.out _ lt_
 clear hK K
 try simp only [Act.put, s1_, s2_, s3_]
 refine tkB 96 33 ?_
 refine tkB 97 34 ?_
 refine tkB 98 35 ?_
 refine tkB 99 36 ?_
 refine wpAnyN_ready (rs := [37]) (by kernel_rfl) (by simp) ?_
 refine AllReadyN.held rfl (by rfl) (fun K hK => ?_) AllReadyN.nil
 go_simp
 refine (pfulfils_calls _ _ _ _ _ _ _ _ _ _ _ _ _ _ _ _ 1 awP (HI.out.later lt_) _ [3] 1 (Own.raw1 (HX.out.later EOwn.later lt_) (sized_list1 (by simp))) (by omega)).mono ?_
 rintro e w137 ⟨rfl, b137⟩
 rw [awP_ful]
 have l37 : Later wx w137 := Later.trans lt_ b137
 refine hK.out _ _ ?_ (fun hHeld => ?_)
 ·exact HT7.out _ lt_
 clear hK K
 try simp only [Act.put, s1_, s2_, s3_]
 refine tkB 101 38 ?_
 refine tkB 102 39 ?_
 refine tkB 103 40 ?_
 refine wpAnyN_ready (rs := [41]) (by kernel_rfl) (by simp) ?_
 refine AllReadyN.held rfl (by rfl) (fun K hK => ?_) AllReadyN.nil
 go_simp
 refine (of11_calls _ 1 (by omega) (by omega) 1 div_1).mono ?_
 rintro e w141 ⟨v141, rfl, o141, b141⟩
 obtain ⟨s141, P141, q141, e141, P141', q141', e141', rfl, o141⟩ := o141.open_; have O141 := hide o141; clear o141
 have l41 : Later wx w141 := Later.trans lt_ b141
 refine hK.out _ _ ?_ (fun hHeld => ?_)
 ·exact HT7.out _ lt_
 clear hK K
 try simp only [Act.put, s1_, s2_, s3_]
 refine wpAnyN_ready (rs := [42]) (by kernel_rfl) (by simp) ?_
 refine AllReadyN.held rfl (by rfl) (fun K hK => ?_) AllReadyN.nil
 go_simp
 refine hK.out _ _ ?_ (fun hHeld => ?_)
 ·exact HT7.out _ lt_
 clear hK K
 try simp only [Act.put, s1_, s2_, s3_]
 refine wpAnyN_ready (rs := [43]) (by kernel_rfl) (by simp) ?_
 refine AllReadyN.held rfl (by rfl) (fun K hK => ?_) AllReadyN.nil
 go_simp
 refine (pfulfils_calls _ _ _ _ _ _ _ _ _ _ _ _ _ _ _ _ 1 awP (HI.out.later lt_) _ [1] 1 (Own.raw1 (rats_one (E := EOwn) (Row.new w141 _ _) ((OwnR.later O141.out lt_).weaken (Nat.zero_le _))) (sized_list1 (by simp))) (by omega)).mono ?_
 rintro e w143 ⟨rfl, b143⟩
 rw [awP_nful]
 have l43 : Later wx w143 := Later.trans lt_ b143
 refine hK.out _ _ ?_ (fun hHeld => ?_)
 ·exact HT7.out _ lt_
 clear hK K
 try simp only [Act.put, s1_, s2_, s3_]
 refine tkB 107 44 ?_
 refine tkB 108 45 ?_
 refine tkB 109 46 ?_
 refine tkB 110 47 ?_
 refine tkB 111 48 ?_
 refine tkB 112 49 ?_
 refine tkB 113 50 ?_
 refine wpAnyN_ready (rs := [51]) (by kernel_rfl) (by simp) ?_
 refine AllReadyN.held rfl (by rfl) (fun K hK => ?_) AllReadyN.nil
 go_simp
 refine (of11_calls _ 3 (by omega) (by omega) 3 div_3).mono ?_
 rintro e w151 ⟨v151, rfl, o151, b151⟩
 obtain ⟨s151, P151, q151, e151, P151', q151', e151', rfl, o151⟩ := o151.open_; have O151 := hide o151; clear o151
 have l51 : Later wx w151 := Later.trans lt_ b151
 refine hK.out _ _ ?_ (fun hHeld => ?_)
 ·exact HT7.out _ lt_
 clear hK K
 try simp only [Act.put, s1_, s2_, s3_]
 refine wpAnyN_ready (rs := [52]) (by kernel_rfl) (by simp) ?_
 refine AllReadyN.held rfl (by rfl) (fun K hK => ?_) AllReadyN.nil
 go_simp
 refine (qsame_calls _ _ _ 3 3 0 0 1 1 (OwnR.later HC.out lt_) ((OwnR.later O151.out lt_).weaken (Nat.zero_le _)) sized_3 sized_3 (by omega) (by omega) true (by decide)).mono ?_
 rintro e w152 ⟨rfl, b152⟩
 have l52 : Later wx w152 := Later.trans lt_ b152
 refine hK.out _ _ ?_ (fun hHeld => ?_)
 ·exact HT7.out _ lt_
 clear hK K
 try simp only [Act.put, s1_, s2_, s3_]
 refine tkB 116 53 ?_
 refine tkB 0 54 ?_
 refine wpAnyN_done (by kernel_rfl) ?_ _
 have LE := hide (HL.out.trans (HLx.out.trans l52))
 clear hHeld
 go_wp2_with fail
 exact HQ.out _ _ rfl rfl LE.out
end Go.Proofs.YtfokplidiboabaaGreat
namespace Go.Proofs.YtfokplidiboabaaGreat
open Go.RowKit Go.Shelf
attribute [local go_sem ↓] Go.wp_at_zero Go.wp_at_succ
theorem results_b {fn : Func} {t : Tmp} {tmps : Array Value} {W : World} {b : Bool} (h : fn.results = #[.tmp t]) (hp : tmps[t]?.getD undef = .bool b) : (results fn tmps).run Tryz.prog W = .ok (.bool b) W := by
 simp [results, h, hp, go_sem]
set_option maxHeartbeats 32000000 in
theorem awake11_calls (w : World) : Calls Tryz.prog 15 #[] w (RetV w (.bool true)) := by
 go_enter Tryz.func15, Tryz.ntmps15
 go_wp2_with fail
 refine (of11_calls _ 1 (by omega) (by omega) 1 div_1).mono ?_
 rintro e w1 ⟨v1, rfl, o1, b1⟩
 obtain ⟨s1, P1, q1, e1, P1', q1', e1', rfl, o1⟩ := o1.open_; have O1 := hide o1; clear o1
 go_wp2_with fail
 refine (of11_calls _ 1 (by omega) (by omega) 1 div_1).mono ?_
 rintro e w2 ⟨v2, rfl, o2, b2⟩
 obtain ⟨s2, P2, q2, e2, P2', q2', e2', rfl, o2⟩ := o2.open_; have O2 := hide o2; clear o2
 go_wp2_with fail
 refine (of11_calls _ 2 (by omega) (by omega) 2 div_2).mono ?_
 rintro e w3 ⟨v3, rfl, o3, b3⟩
 obtain ⟨s3, P3, q3, e3, P3', q3', e3', rfl, o3⟩ := o3.open_; have O3 := hide o3; clear o3
 go_wp2_with fail
 refine (of11_calls _ 0 (by omega) (by omega) 0 div_0).mono ?_
 rintro e w4 ⟨v4, rfl, o4, b4⟩
 obtain ⟨s4, P4, q4, e4, P4', q4', e4', rfl, o4⟩ := o4.open_; have O4 := hide o4; clear o4
 go_wp2_with fail
 refine (of11_calls _ 0 (by omega) (by omega) 0 div_0).mono ?_
 rintro e w5 ⟨v5, rfl, o5, b5⟩
 obtain ⟨s5, P5, q5, e5, P5', q5', e5', rfl, o5⟩ := o5.open_; have O5 := hide o5; clear o5
 go_upto_region 2 with fail
 obtain ⟨wl, hwl⟩ : ∃ W, W = ((w5.alloc (Obj.cells #[Value.bool s5, Value.slice P5 q5 e5, Value.bool false, Value.slice P5' q5' e5'] 36)).alloc (Obj.cells #[Value.bool true] 4)).alloc (Obj.cells #[Value.slice (some ⟨w1.heap.size, 0, none⟩) 1 1, Value.slice (some ⟨w3.heap.size, 0, none⟩) 1 1, Value.slice (some ⟨w4.heap.size, 0, none⟩) 1 1, Value.slice (some ⟨w5.heap.size, 0, none⟩) 1 1, Value.slice (some ⟨w5.heap.size + 1, 0, none⟩) 1 1] 26) := ⟨_, rfl⟩
 have k5 : Later w5 wl := by rw [hwl]; exact (((Later.refl _).alloc _).alloc _).alloc _
 have k4' := b5.trans k5
 have k4 : Later w4 wl := ((Later.refl _).alloc _).trans k4'
 have k3' := b4.trans k4
 have k3 : Later w3 wl := ((Later.refl _).alloc _).trans k3'
 have k2' := b3.trans k3
 have k2 : Later w2 wl := ((Later.refl _).alloc _).trans k2'
 have k1' := b2.trans k2
 have k1 : Later w1 wl := ((Later.refl _).alloc _).trans k1'
 have k0 : Later w wl := b1.trans k1
 have r1 : Row wl w1.heap.size 36 [.bool s1, .slice P1 q1 e1, .bool false, .slice P1' q1' e1'] := (Row.new _ _ _).later k1'
 have r2 : Row wl w2.heap.size 36 [.bool s2, .slice P2 q2 e2, .bool false, .slice P2' q2' e2'] := (Row.new _ _ _).later k2'
 have r3 : Row wl w3.heap.size 60 [.slice (some ⟨w2.heap.size, 0, none⟩) 1 1, .int .i64 2, .bool s3, .slice P3 q3 e3, .bool false, .slice P3' q3' e3'] := (Row.new _ _ _).later k3'
 have r4 : Row wl w4.heap.size 36 [.bool s4, .slice P4 q4 e4, .bool false, .slice P4' q4' e4'] := (Row.new _ _ _).later k4'
 have r5 : Row wl w5.heap.size 36 [.bool s5, .slice P5 q5 e5, .bool false, .slice P5' q5' e5'] := by rw [hwl]; exact ((Row.new _ _ _).alloc _).alloc _
 have r6 : Row wl (w5.heap.size + 1) 4 [.bool true] := by rw [hwl]; exact (row_new1 _ _ _ _).alloc _
 have r7 : Row wl (w5.heap.size + 1 + 1) 26 [.slice (some ⟨w1.heap.size, 0, none⟩) 1 1, .slice (some ⟨w3.heap.size, 0, none⟩) 1 1, .slice (some ⟨w4.heap.size, 0, none⟩) 1 1, .slice (some ⟨w5.heap.size, 0, none⟩) 1 1, .slice (some ⟨w5.heap.size + 1, 0, none⟩) 1 1] := by rw [hwl]; exact row_new2 _ _ _ _ _
 have hI : LpIn wl (.slice (some ⟨w1.heap.size, 0, none⟩) 1 1) (.slice (some ⟨w3.heap.size, 0, none⟩) 1 1) (.slice (some ⟨w4.heap.size, 0, none⟩) 1 1) (.slice (some ⟨w5.heap.size, 0, none⟩) 1 1) (.slice (some ⟨w5.heap.size + 1, 0, none⟩) 1 1) 1 awP :=
  lp_own (rats_one (E := EOwn) r1 (OwnR.weaken (OwnR.later O1.out k1) (Nat.zero_le _))) (lrows_one (x := ⟨[1], 2, 2, true⟩) (r := ⟨some ⟨w2.heap.size, 0, none⟩, 1, 1, ⟨s3, P3, q3, e3, false, P3', q3', e3'⟩⟩) r3 (rowS_own (rats_one (E := EOwn) r2 (OwnR.weaken (OwnR.later O2.out k2) (Nat.zero_le _))) (OwnR.weaken (OwnR.later O3.out k3) (Nat.zero_le _)) (sized_list1 (by simp)) sized_2 (by simp) ⟨by decide, by decide⟩)) (rats_one (E := EOwn) r4 (OwnR.weaken (OwnR.later O4.out k4) (Nat.zero_le _))) (rats_one (E := EOwn) r5 (OwnR.weaken (OwnR.later O5.out k5) (Nat.zero_le _))) (bools_one r6) (sized_list1 (by simp)) (sized_list1 (by simp)) (sized_list1 (by simp)) (by simp) (by simp) (by simp) (by simp) (by simp)
 rw [<- hwl]
 obtain ⟨gp, hgp⟩ : ∃ g, g = w5.heap.size + 1 + 1 := ⟨_, rfl⟩
 obtain ⟨p6, hp6⟩ : ∃ g, g = w5.heap.size + 1 := ⟨_, rfl⟩
 obtain ⟨p5, hp5⟩ : ∃ g, g = w5.heap.size := ⟨_, rfl⟩
 obtain ⟨p4, hp4⟩ : ∃ g, g = w4.heap.size := ⟨_, rfl⟩
 obtain ⟨p3, hp3⟩ : ∃ g, g = w3.heap.size := ⟨_, rfl⟩
 obtain ⟨p1, hp1⟩ : ∃ g, g = w1.heap.size := ⟨_, rfl⟩
 rw [<- hgp] at r7 ⊢
 rw [<- hp6, <- hp5, <- hp4, <- hp3, <- hp1] at r7 hI
 have HI0 := hide hI; have HP0 := hide r7; have HK0 := hide k0
 clear k0 k1 k1' k2 k2' k3 k3' k4 k4' k5 r1 r2 r3 r4 r5 r6 hI hgp hp6 hp5 hp4 hp3 hp1 hwl b1 b2 b3 b4 b5 O1 O2 O3 O4 O5
 have d0 := r7.cell (i := 0) rfl; have d1 := r7.cell (i := 1) rfl; have d2 := r7.cell (i := 2) rfl; have d3 := r7.cell (i := 3) rfl; have d4 := r7.cell (i := 4) rfl
 clear r7
 have hcode : (if lpB awP then (0 : Int) else 1) = 0 := by rw [awP_may]; rfl
 have hcodn : (if lpB noP then (0 : Int) else 1) = 1 := by rw [noP_may]; rfl
 go_wp2_with fail
 refine (pstd_calls _ _ _ _ _ _ _ _ _ _ _ _ _ _ _ _ 1 awP HI0.out).mono ?_
 rintro e w6 ⟨vA, vB, vC, vr, rfl, hv, -, b6⟩
 rw [hcode]
 have hv := hv awP_may
 obtain ⟨A6, n6, c6, rfl, -⟩ := hv.a.form
 obtain ⟨A7, n7, c7, rfl, -⟩ := hv.b.form
 obtain ⟨A8, n8, c8, rfl, -⟩ := hv.c.form
 obtain ⟨s6, P6, q6, e6, P6', q6', e6', rfl, o6⟩ := hv.r.open_
 clear d0 d1 d2 d3 d4
 go_upto_region 3 with fail
 obtain ⟨wn6, hwn6⟩ : ∃ W, W = (w6.alloc (Obj.cells #[Value.slice A6 n6 c6, Value.slice A7 n7 c7, Value.slice A8 n8 c8] 31)).alloc (Obj.cells #[Value.bool s6, Value.slice P6 q6 e6, Value.bool false, Value.slice P6' q6' e6'] 36) := ⟨_, rfl⟩
 obtain ⟨gr, hgr⟩ : ∃ g, g = w6.heap.size + 1 := ⟨_, rfl⟩
 obtain ⟨gs, hgs⟩ : ∃ g, g = w6.heap.size := ⟨_, rfl⟩
 have r6g : Row wn6 gs 31 [.slice A6 n6 c6, .slice A7 n7 c7, .slice A8 n8 c8] := by rw [hwn6, hgs]; exact (Row.new _ _ _).alloc _
 have r6r : Row wn6 gr 36 [.bool s6, .slice P6 q6 e6, .bool false, .slice P6' q6' e6'] := by rw [hwn6, hgr]; exact row_new1 _ _ _ _
 have b7 : Later w6 wn6 := by rw [hwn6]; exact ((Later.refl _).alloc _).alloc _
 rw [<- hwn6, <- hgr, <- hgs]
 have HS6 := hide r6g; have HR6 := hide r6r; have HB6 := hide (b6.trans b7); have HV6 := hide (hv.later b7)
 clear hwn6 hgs hgr r6g r6r b6 b7 hv o6
 go_wp2_with fail
 refine (pstd_calls _ _ _ _ _ _ _ _ _ _ _ _ _ _ _ _ 1 noP (lp_none _)).mono ?_
 rintro e w7 ⟨vA, vB, vC, vr, rfl, -, hv, b8⟩
 rw [hcodn]
 obtain ⟨rfl, rfl, rfl, o7⟩ := hv noP_may
 obtain ⟨s7, P7, q7, e7, P7', q7', e7', rfl, o7⟩ := o7.open_
 have HB7 := hide b8
 clear hv o7 b8 hcode hcodn
 go_upto_region 4 with fail
 obtain ⟨wn, hwn⟩ : ∃ W, W = (w7.alloc (Obj.cells #[Value.slice none 0 0, Value.slice none 0 0, Value.slice none 0 0] 31)).alloc (Obj.cells #[Value.bool s7, Value.slice P7 q7 e7, Value.bool false, Value.slice P7' q7' e7'] 36) := ⟨_, rfl⟩
 have b9 : Later w7 wn := by rw [hwn]; exact ((Later.refl _).alloc _).alloc _
 rw [<- hwn]
 have hl := HB7.out.trans b9
 have hl2 := HB6.out.trans hl
 have HGP := hide (HP0.out.later hl2); have HGS := hide (HS6.out.later hl); have HGR := hide (HR6.out.later hl); have HSV := hide (HV6.out.later hl); have HI := hide (HI0.out.later hl2)
 have HLW := hide (HK0.out.trans hl2)
 clear hwn b9 hl hl2 HP0 HS6 HR6 HV6 HI0 HB6 HB7 HK0
 have HT4 : Hid (∀ w', Later wn w' -> w'.cell? ⟨gp, 0, none⟩ = some (.slice (some ⟨p1, 0, none⟩) 1 1) /\ w'.cell? ⟨gp, 1, none⟩ = some (.slice (some ⟨p3, 0, none⟩) 1 1) /\ w'.cell? ⟨gp, 2, none⟩ = some (.slice (some ⟨p4, 0, none⟩) 1 1) /\ w'.cell? ⟨gp, 3, none⟩ = some (.slice (some ⟨p5, 0, none⟩) 1 1) /\ w'.cell? ⟨gp, 4, none⟩ = some (.slice (some ⟨p6, 0, none⟩) 1 1)) := hide fun w' hb => by
  have h1 := HGP.out.later hb
  exact ⟨h1.cell (i := 0) rfl, h1.cell (i := 1) rfl, h1.cell (i := 2) rfl, h1.cell (i := 3) rfl, h1.cell (i := 4) rfl⟩
 have hmx : Tryz.prog.follows .mixedOrders = true := by kernel_rfl
 refine wp_region_N (fun w' => w'.cell? ⟨gp, 0, none⟩ = some (.slice (some ⟨p1, 0, none⟩) 1 1) /\ w'.cell? ⟨gp, 1, none⟩ = some (.slice (some ⟨p3, 0, none⟩) 1 1) /\ w'.cell? ⟨gp, 2, none⟩ = some (.slice (some ⟨p4, 0, none⟩) 1 1) /\ w'.cell? ⟨gp, 3, none⟩ = some (.slice (some ⟨p5, 0, none⟩) 1 1) /\ w'.cell? ⟨gp, 4, none⟩ = some (.slice (some ⟨p6, 0, none⟩) 1 1)) [] hmx (HT4.out _ lt_) (fun hHeld => ?_)
 refine tkB 39 0 ?_
 refine wpAnyN_ready (rs := [1]) (by kernel_rfl) (by simp) ?_
 refine AllReadyN.held rfl (by rfl) (fun K hK => ?_) AllReadyN.nil
 go_simp
 refine (of11_calls _ 3 (by omega) (by omega) 3 div_3).mono ?_
 rintro e w101 ⟨v101, rfl, o101, b101⟩
 obtain ⟨s101, P101, q101, e101, P101', q101', e101', rfl, o101⟩ := o101.open_; have O101 := hide o101; clear o101
 have l1 : Later wn w101 := Later.trans lt_ b101
 refine hK.out _ _ ?_ (fun hHeld => ?_)
 ·exact HT4.out _ lt_
 clear hK K
 try simp only [Act.put, s1_, s2_, s3_]
 refine wpAnyN_ready (rs := [2]) (by kernel_rfl) (by simp) ?_
 refine AllReadyN.held rfl (by rfl) (fun K hK => ?_) AllReadyN.nil
 go_simp
 refine (of11_calls _ 1 (by omega) (by omega) 1 div_1).mono ?_
 rintro e w102 ⟨v102, rfl, o102, b102⟩
 obtain ⟨s102, P102, q102, e102, P102', q102', e102', rfl, o102⟩ := o102.open_; have O102 := hide o102; clear o102
 have l2 : Later wn w102 := Later.trans lt_ b102
 refine hK.out _ _ ?_ (fun hHeld => ?_)
 ·exact HT4.out _ lt_
 clear hK K
 try simp only [Act.put, s1_, s2_, s3_]
 refine wpAnyN_ready (rs := [3]) (by kernel_rfl) (by simp) ?_
 refine AllReadyN.held rfl (by rfl) (fun K hK => ?_) AllReadyN.nil
 go_simp
 refine hK.out _ _ ?_ (fun hHeld => ?_)
 ·exact HT4.out _ lt_
 clear hK K
 try simp only [Act.put, s1_, s2_, s3_]
 refine wpAnyN_ready (rs := [4]) (by kernel_rfl) (by simp) ?_
 refine AllReadyN.held rfl (by rfl) (fun K hK => ?_) AllReadyN.nil
 go_simp
 refine (pback_calls _ _ _ _ _ _ _ _ _ _ _ _ _ _ _ _ 1 awP (HI.out.later lt_) _ [3, 1] 1 (Own.raw1 (rats_two (E := EOwn) (Row.new w102 _ _) ((OwnR.later O101.out (Later.trans b102 lt_)).weaken (Nat.zero_le _)) ((OwnR.later O102.out lt_).weaken (Nat.zero_le _))) (sized_list1 (by simp))) (by omega) (by simp)).mono ?_
 rintro e w104 ⟨v104, rfl, hb1, -, b104⟩
 have hcode4 : (if backB awP [3, 1] then (0 : Int) else 1) = 0 := by rw [awP_backB]; rfl
 rw [hcode4]
 have hx4 : Rats EOwn w104 v104 [3] := by have h1 := (hb1 awP_backB).now; rw [awP_back] at h1; exact h1
 obtain ⟨A9, n9, c9, rfl, -⟩ := hx4.form
 have HX4 := hide hx4
 have l4 : Later wn w104 := Later.trans lt_ b104
 clear hb1 hcode4 hx4 b104
 refine hK.out _ _ ?_ (fun hHeld => ?_)
 ·exact HT4.out _ lt_
 clear hK K
 try simp only [Act.put, s1_, s2_, s3_]
 refine tkB 38 5 ?_
 refine tkB 44 6 ?_
 refine tkB 45 7 ?_
 refine tkB 8 8 ?_
 refine tkB 9 9 ?_
 refine wpAnyN_done (by kernel_rfl) ?_ _
 have HL4 := hide (show Later wn w104 from l4)
 clear hHeld l1 l2 l4 b101 b102 O101 O102
 go_upto_region 5 with fail
 have HT5 : Hid (∀ w', Later w104 w' -> w'.cell? ⟨gp, 0, none⟩ = some (.slice (some ⟨p1, 0, none⟩) 1 1) /\ w'.cell? ⟨gp, 1, none⟩ = some (.slice (some ⟨p3, 0, none⟩) 1 1) /\ w'.cell? ⟨gp, 2, none⟩ = some (.slice (some ⟨p4, 0, none⟩) 1 1) /\ w'.cell? ⟨gp, 3, none⟩ = some (.slice (some ⟨p5, 0, none⟩) 1 1) /\ w'.cell? ⟨gp, 4, none⟩ = some (.slice (some ⟨p6, 0, none⟩) 1 1)) := hide fun w' hb => HT4.out w' (HL4.out.trans hb)
 refine wp_region_N (fun w' => w'.cell? ⟨gp, 0, none⟩ = some (.slice (some ⟨p1, 0, none⟩) 1 1) /\ w'.cell? ⟨gp, 1, none⟩ = some (.slice (some ⟨p3, 0, none⟩) 1 1) /\ w'.cell? ⟨gp, 2, none⟩ = some (.slice (some ⟨p4, 0, none⟩) 1 1) /\ w'.cell? ⟨gp, 3, none⟩ = some (.slice (some ⟨p5, 0, none⟩) 1 1) /\ w'.cell? ⟨gp, 4, none⟩ = some (.slice (some ⟨p6, 0, none⟩) 1 1)) [] hmx (HT5.out _ lt_) (fun hHeld => ?_)
 refine tkB 47 0 ?_
 refine wpAnyN_ready (rs := [1, 7]) (by kernel_rfl) (by simp) ?_
 refine AllReadyN.held rfl (by rfl) (fun K hK => ?_) ?_
 ·go_simp
  refine (of11_calls _ 3 (by omega) (by omega) 3 div_3).mono ?_
  rintro e w201 ⟨v201, rfl, o201, b201⟩
  obtain ⟨s201, P201, q201, e201, P201', q201', e201', rfl, o201⟩ := o201.open_; have O201 := hide o201; clear o201
  have l201 : Later w104 w201 := Later.trans lt_ b201
  refine hK.out _ _ ?_ (fun hHeld => ?_)
  ·exact HT5.out _ lt_
  clear hK K
  try simp only [Act.put, s1_, s2_, s3_]
  refine wpAnyN_ready (rs := [2, 7]) (by kernel_rfl) (by simp) ?_
  refine AllReadyN.held rfl (by rfl) (fun K hK => ?_) ?_
  ·go_simp
   refine hK.out _ _ ?_ (fun hHeld => ?_)
   ·exact HT5.out _ lt_
   clear hK K
   try simp only [Act.put, s1_, s2_, s3_]
   refine wpAnyN_ready (rs := [3, 7]) (by kernel_rfl) (by simp) ?_
   refine AllReadyN.held rfl (by rfl) (fun K hK => ?_) ?_
   ·go_simp
    refine (pcost_calls _ _ _ _ _ _ _ _ _ _ _ _ _ _ _ _ 1 awP (HI.out.later (Later.trans HL4.out lt_)) _ [3] 1 (Own.raw1 (rats_one (E := EOwn) (Row.later (Row.new _ _ _) lt_) ((OwnR.later O201.out lt_).weaken (Nat.zero_le _))) (sized_list1 (by simp))) (by omega)).mono ?_
    rintro e w203 ⟨v203, ok203, rfl, ⟨o203, rfl⟩, b203⟩
    rw [awP_costB]
    rw [awP_cost] at o203
    obtain ⟨s203, P203, q203, e203, P203', q203', e203', rfl, o203⟩ := o203.open_; have O203 := hide o203; clear o203
    have l203 : Later w104 w203 := Later.trans lt_ b203
    refine hK.out _ _ ?_ (fun hHeld => ?_)
    ·exact HT5.out _ lt_
    clear hK K
    try simp only [Act.put, s1_, s2_, s3_]
    refine tkB 46 4 ?_
    refine tkB 51 5 ?_
    refine tkB 52 6 ?_
    refine wpAnyN_ready (rs := [7]) (by kernel_rfl) (by simp) ?_
    refine AllReadyN.held rfl (by rfl) (fun K hK => ?_) AllReadyN.nil
    go_simp
    obtain ⟨W10, hW10⟩ : ∃ W, W = w203.alloc (Obj.cells #[Value.bool false, Value.slice none 0 0, Value.bool false, Value.slice none 0 0] 36) := ⟨_, rfl⟩
    obtain ⟨g10, hg10⟩ : ∃ g, g = w203.heap.size := ⟨_, rfl⟩
    have r10 : Row W10 g10 36 [.bool false, .slice none 0 0, .bool false, .slice none 0 0] := by rw [hW10, hg10]; exact Row.new _ _ _
    have hg104 : w104.heap.size <= g10 := by
     have h1 := (show Later w104 w203 from lt_).size
     rw [hg10]; exact h1
    have lW10 : Later w104 W10 := by rw [hW10]; exact (show Later w104 w203 from lt_).alloc _
    have lX10 : Later w203 W10 := by rw [hW10]; exact (Later.refl _).alloc _
    have R10 := hide r10
    rw [<- hW10, <- hg10]
    clear r10 hW10 hg10
    refine hK.out _ _ ?_ (fun hHeld => ?_)
    ·exact HT5.out _ lt_
    clear hK K
    try simp only [Act.put, s1_, s2_, s3_]
    refine wpAnyN_ready (rs := [8]) (by kernel_rfl) (by simp) ?_
    refine AllReadyN.held rfl (by rfl) (fun K hK => ?_) AllReadyN.nil
    have r10 := R10.out.later (Later.refl W10)
    obtain ⟨k30, k31, k32, k33, f30, f31, f32, f33⟩ := row_cells4 r10
    have HS8 : Hid (((((W10.setCell ⟨g10, 0, none⟩ (.bool s203)).setCell ⟨g10, 1, none⟩ (.slice P203 q203 e203)).setCell ⟨g10, 2, none⟩ (.bool false)).setCell ⟨g10, 3, none⟩ (.slice P203' q203' e203')).cell? ⟨gp, 0, none⟩ = some (.slice (some ⟨p1, 0, none⟩) 1 1) /\ ((((W10.setCell ⟨g10, 0, none⟩ (.bool s203)).setCell ⟨g10, 1, none⟩ (.slice P203 q203 e203)).setCell ⟨g10, 2, none⟩ (.bool false)).setCell ⟨g10, 3, none⟩ (.slice P203' q203' e203')).cell? ⟨gp, 1, none⟩ = some (.slice (some ⟨p3, 0, none⟩) 1 1) /\ ((((W10.setCell ⟨g10, 0, none⟩ (.bool s203)).setCell ⟨g10, 1, none⟩ (.slice P203 q203 e203)).setCell ⟨g10, 2, none⟩ (.bool false)).setCell ⟨g10, 3, none⟩ (.slice P203' q203' e203')).cell? ⟨gp, 2, none⟩ = some (.slice (some ⟨p4, 0, none⟩) 1 1) /\ ((((W10.setCell ⟨g10, 0, none⟩ (.bool s203)).setCell ⟨g10, 1, none⟩ (.slice P203 q203 e203)).setCell ⟨g10, 2, none⟩ (.bool false)).setCell ⟨g10, 3, none⟩ (.slice P203' q203' e203')).cell? ⟨gp, 3, none⟩ = some (.slice (some ⟨p5, 0, none⟩) 1 1) /\ ((((W10.setCell ⟨g10, 0, none⟩ (.bool s203)).setCell ⟨g10, 1, none⟩ (.slice P203 q203 e203)).setCell ⟨g10, 2, none⟩ (.bool false)).setCell ⟨g10, 3, none⟩ (.slice P203' q203' e203')).cell? ⟨gp, 4, none⟩ = some (.slice (some ⟨p6, 0, none⟩) 1 1)) := hide (by
     have oo : Only g10 W10 ((((W10.setCell ⟨g10, 0, none⟩ (.bool s203)).setCell ⟨g10, 1, none⟩ (.slice P203 q203 e203)).setCell ⟨g10, 2, none⟩ (.bool false)).setCell ⟨g10, 3, none⟩ (.slice P203' q203' e203')) := Only.four _ _ _ _ _ _
     have hgl := HGP.out.lt
     have hg2 := HL4.out.size
     have h1 := (HGP.out.later (HL4.out.trans (show Later w104 W10 from lW10))).only oo (by omega)
     exact ⟨h1.cell (i := 0) rfl, h1.cell (i := 1) rfl, h1.cell (i := 2) rfl, h1.cell (i := 3) rfl, h1.cell (i := 4) rfl⟩)
    go_simp
    refine hK.out _ _ ?_ (fun hHeld => ?_)
    ·exact HS8.out
    clear hK K
    try simp only [Act.put, s1_, s2_, s3_]
    refine tkB 11 9 ?_
    refine wpAnyN_done (by kernel_rfl) ?_ _
    obtain ⟨wt, hwt⟩ : ∃ W, W = ((((W10.setCell ⟨g10, 0, none⟩ (.bool s203)).setCell ⟨g10, 1, none⟩ (.slice P203 q203 e203)).setCell ⟨g10, 2, none⟩ (.bool false)).setCell ⟨g10, 3, none⟩ (.slice P203' q203' e203')) := ⟨_, rfl⟩
    rw [<- hwt]
    have oo : Only g10 W10 wt := by rw [hwt]; exact Only.four _ _ _ _ _ _
    have rt : Row wt g10 36 [.bool s203, .slice P203 q203 e203, .bool false, .slice P203' q203' e203'] := by rw [hwt]; exact r10.four _ _ _ _
    have ht : Later w104 wt := (show Later w104 W10 from lW10).only oo hg104
    have HCc : OwnR wt 0 (.agg #[.bool s203, .slice P203 q203 e203, .bool false, .slice P203' q203' e203']) 3 := OwnR.keepU (OwnR.later O203.out lX10) (KeepU.only oo r10 (by decide))
    have hl4 := HL4.out.trans ht
    have HBt : Boxes wt [(gp, 26, [.slice (some ⟨p1, 0, none⟩) 1 1, .slice (some ⟨p3, 0, none⟩) 1 1, .slice (some ⟨p4, 0, none⟩) 1 1, .slice (some ⟨p5, 0, none⟩) 1 1, .slice (some ⟨p6, 0, none⟩) 1 1]), (gs, 31, [.slice A6 n6 c6, .slice A7 n7 c7, .slice A8 n8 c8]), (gr, 36, [.bool s6, .slice P6 q6 e6, .bool false, .slice P6' q6' e6']), (g10, 36, [.bool s203, .slice P203 q203 e203, .bool false, .slice P203' q203' e203'])] := by
     intro r hr
     simp only [List.mem_cons, List.not_mem_nil, or_false] at hr
     rcases hr with rfl | rfl | rfl | rfl
     ·exact HGP.out.later hl4
     ·exact HGS.out.later hl4
     ·exact HGR.out.later hl4
     ·exact rt
    clear hHeld HS8 r10 k30 k31 k32 k33 f30 f31 f32 f33 hwt
    simp only [Exit.inBlock, Exit.then]
    apply_assumption
    refine wp_mono (awake11_tail w wt _ _ _ _ _ _ _ _ _ _ _ _ _ _ _ gp gs gr g10 _ _ _ _ _ _ _ _ _ _ _ _ _ _ _ _ _ _ _ _ _ _ _ _ _ _ _ _ (HI.out.later hl4) (HSV.out.later hl4) (HX4.out.later EOwn.later ht) HCc HBt (HLW.out.trans hl4) _ _ _ _ _ _ _ _ _ _ _ _ _ _ _ _ _ _ _ _ _ _ _ _ _ _ _ _ _ _ _ _ _ _ _ _ _ _ _ _ _ _ _ _ _ _ _ _ _ _ _ _ _ _ _ _ _ _ _ _ _ _ _ _ _ _ _ _ _ _ _ _ _ _ _ _ _ _ _ _ _ _ _ _ _ _ _ _ _ _ _ _ _ _ _ _ _ _ _ _ _ _ _ _ _ _ _ (bodyPost Tryz.prog Tryz.f15 (RetV w (.bool true)) .ret) ?_) ?_
    ·intro a' w' hd h0 hL
     exact bodyPost_ret (results_b rfl h0) hd ⟨rfl, hL⟩
    ·intro e a' w' h
     cases e <;> first | exact h | exact h.elim
   refine AllReadyN.held rfl (by rfl) (fun K hK => ?_) AllReadyN.nil
   go_simp
   obtain ⟨W10, hW10⟩ : ∃ W, W = (w201.alloc (Obj.cells #[Value.bool s201, Value.slice P201 q201 e201, Value.bool false, Value.slice P201' q201' e201'] 36)).alloc (Obj.cells #[Value.bool false, Value.slice none 0 0, Value.bool false, Value.slice none 0 0] 36) := ⟨_, rfl⟩
   obtain ⟨g10, hg10⟩ : ∃ g, g = w201.heap.size + 1 := ⟨_, rfl⟩
   have r10 : Row W10 g10 36 [.bool false, .slice none 0 0, .bool false, .slice none 0 0] := by rw [hW10, hg10]; exact row_new1 _ _ _ _
   have hg104 : w104.heap.size <= g10 := by
    have h1 := (show Later w104 (w201.alloc (Obj.cells #[Value.bool s201, Value.slice P201 q201 e201, Value.bool false, Value.slice P201' q201' e201'] 36)) from lt_).size
    rw [hg10]; rw [World.size_alloc] at h1; exact h1
   have lW10 : Later w104 W10 := by rw [hW10]; exact (show Later w104 (w201.alloc (Obj.cells #[Value.bool s201, Value.slice P201 q201 e201, Value.bool false, Value.slice P201' q201' e201'] 36)) from lt_).alloc _
   have l1X : Later w201 W10 := by rw [hW10]; exact (show Later w201 (w201.alloc (Obj.cells #[Value.bool s201, Value.slice P201 q201 e201, Value.bool false, Value.slice P201' q201' e201'] 36)) from lt_).alloc _
   have r2X : Row W10 w201.heap.size 36 [.bool s201, .slice P201 q201 e201, .bool false, .slice P201' q201' e201'] := by rw [hW10]; exact (Row.new _ _ _).alloc _
   have R10 := hide r10
   rw [<- hW10, <- hg10]
   clear r10 hW10 hg10
   refine hK.out _ _ ?_ (fun hHeld => ?_)
   ·exact HT5.out _ lt_
   clear hK K
   try simp only [Act.put, s1_, s2_, s3_]
   refine wpAnyN_ready (rs := [3]) (by kernel_rfl) (by simp) ?_
   refine AllReadyN.held rfl (by rfl) (fun K hK => ?_) AllReadyN.nil
   go_simp
   refine (pcost_calls _ _ _ _ _ _ _ _ _ _ _ _ _ _ _ _ 1 awP (HI.out.later (Later.trans HL4.out lt_)) _ [3] 1 (Own.raw1 (rats_one (E := EOwn) (r2X) ((OwnR.later O201.out lt_).weaken (Nat.zero_le _))) (sized_list1 (by simp))) (by omega)).mono ?_
   rintro e w203 ⟨v203, ok203, rfl, ⟨o203, rfl⟩, b203⟩
   rw [awP_costB]
   rw [awP_cost] at o203
   obtain ⟨s203, P203, q203, e203, P203', q203', e203', rfl, o203⟩ := o203.open_; have O203 := hide o203; clear o203
   have l203 : Later w104 w203 := Later.trans lt_ b203
   have m203 : Later W10 w203 := Later.trans lt_ b203
   refine hK.out _ _ ?_ (fun hHeld => ?_)
   ·exact HT5.out _ lt_
   clear hK K
   try simp only [Act.put, s1_, s2_, s3_]
   refine tkB 46 4 ?_
   refine tkB 51 5 ?_
   refine tkB 52 6 ?_
   refine wpAnyN_ready (rs := [8]) (by kernel_rfl) (by simp) ?_
   refine AllReadyN.held rfl (by rfl) (fun K hK => ?_) AllReadyN.nil
   have r10 := R10.out.later m203
   obtain ⟨k30, k31, k32, k33, f30, f31, f32, f33⟩ := row_cells4 r10
   have HS8 : Hid (((((w203.setCell ⟨g10, 0, none⟩ (.bool s203)).setCell ⟨g10, 1, none⟩ (.slice P203 q203 e203)).setCell ⟨g10, 2, none⟩ (.bool false)).setCell ⟨g10, 3, none⟩ (.slice P203' q203' e203')).cell? ⟨gp, 0, none⟩ = some (.slice (some ⟨p1, 0, none⟩) 1 1) /\ ((((w203.setCell ⟨g10, 0, none⟩ (.bool s203)).setCell ⟨g10, 1, none⟩ (.slice P203 q203 e203)).setCell ⟨g10, 2, none⟩ (.bool false)).setCell ⟨g10, 3, none⟩ (.slice P203' q203' e203')).cell? ⟨gp, 1, none⟩ = some (.slice (some ⟨p3, 0, none⟩) 1 1) /\ ((((w203.setCell ⟨g10, 0, none⟩ (.bool s203)).setCell ⟨g10, 1, none⟩ (.slice P203 q203 e203)).setCell ⟨g10, 2, none⟩ (.bool false)).setCell ⟨g10, 3, none⟩ (.slice P203' q203' e203')).cell? ⟨gp, 2, none⟩ = some (.slice (some ⟨p4, 0, none⟩) 1 1) /\ ((((w203.setCell ⟨g10, 0, none⟩ (.bool s203)).setCell ⟨g10, 1, none⟩ (.slice P203 q203 e203)).setCell ⟨g10, 2, none⟩ (.bool false)).setCell ⟨g10, 3, none⟩ (.slice P203' q203' e203')).cell? ⟨gp, 3, none⟩ = some (.slice (some ⟨p5, 0, none⟩) 1 1) /\ ((((w203.setCell ⟨g10, 0, none⟩ (.bool s203)).setCell ⟨g10, 1, none⟩ (.slice P203 q203 e203)).setCell ⟨g10, 2, none⟩ (.bool false)).setCell ⟨g10, 3, none⟩ (.slice P203' q203' e203')).cell? ⟨gp, 4, none⟩ = some (.slice (some ⟨p6, 0, none⟩) 1 1)) := hide (by
    have oo : Only g10 w203 ((((w203.setCell ⟨g10, 0, none⟩ (.bool s203)).setCell ⟨g10, 1, none⟩ (.slice P203 q203 e203)).setCell ⟨g10, 2, none⟩ (.bool false)).setCell ⟨g10, 3, none⟩ (.slice P203' q203' e203')) := Only.four _ _ _ _ _ _
    have hgl := HGP.out.lt
    have hg2 := HL4.out.size
    have h1 := (HGP.out.later (HL4.out.trans (show Later w104 w203 from l203))).only oo (by omega)
    exact ⟨h1.cell (i := 0) rfl, h1.cell (i := 1) rfl, h1.cell (i := 2) rfl, h1.cell (i := 3) rfl, h1.cell (i := 4) rfl⟩)
   go_simp
   refine hK.out _ _ ?_ (fun hHeld => ?_)
   ·exact HS8.out
   clear hK K
   try simp only [Act.put, s1_, s2_, s3_]
   refine tkB 11 9 ?_
   refine wpAnyN_done (by kernel_rfl) ?_ _
   obtain ⟨wt, hwt⟩ : ∃ W, W = ((((w203.setCell ⟨g10, 0, none⟩ (.bool s203)).setCell ⟨g10, 1, none⟩ (.slice P203 q203 e203)).setCell ⟨g10, 2, none⟩ (.bool false)).setCell ⟨g10, 3, none⟩ (.slice P203' q203' e203')) := ⟨_, rfl⟩
   rw [<- hwt]
   have oo : Only g10 w203 wt := by rw [hwt]; exact Only.four _ _ _ _ _ _
   have rt : Row wt g10 36 [.bool s203, .slice P203 q203 e203, .bool false, .slice P203' q203' e203'] := by rw [hwt]; exact r10.four _ _ _ _
   have ht : Later w104 wt := (show Later w104 w203 from l203).only oo hg104
   have HCc : OwnR wt 0 (.agg #[.bool s203, .slice P203 q203 e203, .bool false, .slice P203' q203' e203']) 3 := OwnR.keepU (OwnR.later O203.out (Later.refl w203)) (KeepU.only oo r10 (by decide))
   have hl4 := HL4.out.trans ht
   have HBt : Boxes wt [(gp, 26, [.slice (some ⟨p1, 0, none⟩) 1 1, .slice (some ⟨p3, 0, none⟩) 1 1, .slice (some ⟨p4, 0, none⟩) 1 1, .slice (some ⟨p5, 0, none⟩) 1 1, .slice (some ⟨p6, 0, none⟩) 1 1]), (gs, 31, [.slice A6 n6 c6, .slice A7 n7 c7, .slice A8 n8 c8]), (gr, 36, [.bool s6, .slice P6 q6 e6, .bool false, .slice P6' q6' e6']), (g10, 36, [.bool s203, .slice P203 q203 e203, .bool false, .slice P203' q203' e203'])] := by
    intro r hr
    simp only [List.mem_cons, List.not_mem_nil, or_false] at hr
    rcases hr with rfl | rfl | rfl | rfl
    ·exact HGP.out.later hl4
    ·exact HGS.out.later hl4
    ·exact HGR.out.later hl4
    ·exact rt
   clear hHeld HS8 r10 k30 k31 k32 k33 f30 f31 f32 f33 hwt
   simp only [Exit.inBlock, Exit.then]
   apply_assumption
   refine wp_mono (awake11_tail w wt _ _ _ _ _ _ _ _ _ _ _ _ _ _ _ gp gs gr g10 _ _ _ _ _ _ _ _ _ _ _ _ _ _ _ _ _ _ _ _ _ _ _ _ _ _ _ _ (HI.out.later hl4) (HSV.out.later hl4) (HX4.out.later EOwn.later ht) HCc HBt (HLW.out.trans hl4) _ _ _ _ _ _ _ _ _ _ _ _ _ _ _ _ _ _ _ _ _ _ _ _ _ _ _ _ _ _ _ _ _ _ _ _ _ _ _ _ _ _ _ _ _ _ _ _ _ _ _ _ _ _ _ _ _ _ _ _ _ _ _ _ _ _ _ _ _ _ _ _ _ _ _ _ _ _ _ _ _ _ _ _ _ _ _ _ _ _ _ _ _ _ _ _ _ _ _ _ _ _ _ _ _ _ _ (bodyPost Tryz.prog Tryz.f15 (RetV w (.bool true)) .ret) ?_) ?_
   ·intro a' w' hd h0 hL
    exact bodyPost_ret (results_b rfl h0) hd ⟨rfl, hL⟩
   ·intro e a' w' h
    cases e <;> first | exact h | exact h.elim
  refine AllReadyN.held rfl (by rfl) (fun K hK => ?_) AllReadyN.nil
  go_simp
  obtain ⟨W10, hW10⟩ : ∃ W, W = w201.alloc (Obj.cells #[Value.bool false, Value.slice none 0 0, Value.bool false, Value.slice none 0 0] 36) := ⟨_, rfl⟩
  obtain ⟨g10, hg10⟩ : ∃ g, g = w201.heap.size := ⟨_, rfl⟩
  have r10 : Row W10 g10 36 [.bool false, .slice none 0 0, .bool false, .slice none 0 0] := by rw [hW10, hg10]; exact Row.new _ _ _
  have hg104 : w104.heap.size <= g10 := by
   have h1 := (show Later w104 w201 from lt_).size
   rw [hg10]; exact h1
  have lW10 : Later w104 W10 := by rw [hW10]; exact (show Later w104 w201 from lt_).alloc _
  have l1X : Later w201 W10 := by rw [hW10]; exact (show Later w201 w201 from lt_).alloc _
  have R10 := hide r10
  rw [<- hW10, <- hg10]
  clear r10 hW10 hg10
  refine hK.out _ _ ?_ (fun hHeld => ?_)
  ·exact HT5.out _ lt_
  clear hK K
  try simp only [Act.put, s1_, s2_, s3_]
  refine wpAnyN_ready (rs := [2]) (by kernel_rfl) (by simp) ?_
  refine AllReadyN.held rfl (by rfl) (fun K hK => ?_) AllReadyN.nil
  go_simp
  refine hK.out _ _ ?_ (fun hHeld => ?_)
  ·exact HT5.out _ lt_
  clear hK K
  try simp only [Act.put, s1_, s2_, s3_]
  refine wpAnyN_ready (rs := [3]) (by kernel_rfl) (by simp) ?_
  refine AllReadyN.held rfl (by rfl) (fun K hK => ?_) AllReadyN.nil
  go_simp
  refine (pcost_calls _ _ _ _ _ _ _ _ _ _ _ _ _ _ _ _ 1 awP (HI.out.later (Later.trans HL4.out lt_)) _ [3] 1 (Own.raw1 (rats_one (E := EOwn) (Row.later (Row.new _ _ _) lt_) ((OwnR.later O201.out lt_).weaken (Nat.zero_le _))) (sized_list1 (by simp))) (by omega)).mono ?_
  rintro e w203 ⟨v203, ok203, rfl, ⟨o203, rfl⟩, b203⟩
  rw [awP_costB]
  rw [awP_cost] at o203
  obtain ⟨s203, P203, q203, e203, P203', q203', e203', rfl, o203⟩ := o203.open_; have O203 := hide o203; clear o203
  have l203 : Later w104 w203 := Later.trans lt_ b203
  have m203 : Later W10 w203 := Later.trans lt_ b203
  refine hK.out _ _ ?_ (fun hHeld => ?_)
  ·exact HT5.out _ lt_
  clear hK K
  try simp only [Act.put, s1_, s2_, s3_]
  refine tkB 46 4 ?_
  refine tkB 51 5 ?_
  refine tkB 52 6 ?_
  refine wpAnyN_ready (rs := [8]) (by kernel_rfl) (by simp) ?_
  refine AllReadyN.held rfl (by rfl) (fun K hK => ?_) AllReadyN.nil
  have r10 := R10.out.later m203
  obtain ⟨k30, k31, k32, k33, f30, f31, f32, f33⟩ := row_cells4 r10
  have HS8 : Hid (((((w203.setCell ⟨g10, 0, none⟩ (.bool s203)).setCell ⟨g10, 1, none⟩ (.slice P203 q203 e203)).setCell ⟨g10, 2, none⟩ (.bool false)).setCell ⟨g10, 3, none⟩ (.slice P203' q203' e203')).cell? ⟨gp, 0, none⟩ = some (.slice (some ⟨p1, 0, none⟩) 1 1) /\ ((((w203.setCell ⟨g10, 0, none⟩ (.bool s203)).setCell ⟨g10, 1, none⟩ (.slice P203 q203 e203)).setCell ⟨g10, 2, none⟩ (.bool false)).setCell ⟨g10, 3, none⟩ (.slice P203' q203' e203')).cell? ⟨gp, 1, none⟩ = some (.slice (some ⟨p3, 0, none⟩) 1 1) /\ ((((w203.setCell ⟨g10, 0, none⟩ (.bool s203)).setCell ⟨g10, 1, none⟩ (.slice P203 q203 e203)).setCell ⟨g10, 2, none⟩ (.bool false)).setCell ⟨g10, 3, none⟩ (.slice P203' q203' e203')).cell? ⟨gp, 2, none⟩ = some (.slice (some ⟨p4, 0, none⟩) 1 1) /\ ((((w203.setCell ⟨g10, 0, none⟩ (.bool s203)).setCell ⟨g10, 1, none⟩ (.slice P203 q203 e203)).setCell ⟨g10, 2, none⟩ (.bool false)).setCell ⟨g10, 3, none⟩ (.slice P203' q203' e203')).cell? ⟨gp, 3, none⟩ = some (.slice (some ⟨p5, 0, none⟩) 1 1) /\ ((((w203.setCell ⟨g10, 0, none⟩ (.bool s203)).setCell ⟨g10, 1, none⟩ (.slice P203 q203 e203)).setCell ⟨g10, 2, none⟩ (.bool false)).setCell ⟨g10, 3, none⟩ (.slice P203' q203' e203')).cell? ⟨gp, 4, none⟩ = some (.slice (some ⟨p6, 0, none⟩) 1 1)) := hide (by
   have oo : Only g10 w203 ((((w203.setCell ⟨g10, 0, none⟩ (.bool s203)).setCell ⟨g10, 1, none⟩ (.slice P203 q203 e203)).setCell ⟨g10, 2, none⟩ (.bool false)).setCell ⟨g10, 3, none⟩ (.slice P203' q203' e203')) := Only.four _ _ _ _ _ _
   have hgl := HGP.out.lt
   have hg2 := HL4.out.size
   have h1 := (HGP.out.later (HL4.out.trans (show Later w104 w203 from l203))).only oo (by omega)
   exact ⟨h1.cell (i := 0) rfl, h1.cell (i := 1) rfl, h1.cell (i := 2) rfl, h1.cell (i := 3) rfl, h1.cell (i := 4) rfl⟩)
  go_simp
  refine hK.out _ _ ?_ (fun hHeld => ?_)
  ·exact HS8.out
  clear hK K
  try simp only [Act.put, s1_, s2_, s3_]
  refine tkB 11 9 ?_
  refine wpAnyN_done (by kernel_rfl) ?_ _
  obtain ⟨wt, hwt⟩ : ∃ W, W = ((((w203.setCell ⟨g10, 0, none⟩ (.bool s203)).setCell ⟨g10, 1, none⟩ (.slice P203 q203 e203)).setCell ⟨g10, 2, none⟩ (.bool false)).setCell ⟨g10, 3, none⟩ (.slice P203' q203' e203')) := ⟨_, rfl⟩
  rw [<- hwt]
  have oo : Only g10 w203 wt := by rw [hwt]; exact Only.four _ _ _ _ _ _
  have rt : Row wt g10 36 [.bool s203, .slice P203 q203 e203, .bool false, .slice P203' q203' e203'] := by rw [hwt]; exact r10.four _ _ _ _
  have ht : Later w104 wt := (show Later w104 w203 from l203).only oo hg104
  have HCc : OwnR wt 0 (.agg #[.bool s203, .slice P203 q203 e203, .bool false, .slice P203' q203' e203']) 3 := OwnR.keepU (OwnR.later O203.out (Later.refl w203)) (KeepU.only oo r10 (by decide))
  have hl4 := HL4.out.trans ht
  have HBt : Boxes wt [(gp, 26, [.slice (some ⟨p1, 0, none⟩) 1 1, .slice (some ⟨p3, 0, none⟩) 1 1, .slice (some ⟨p4, 0, none⟩) 1 1, .slice (some ⟨p5, 0, none⟩) 1 1, .slice (some ⟨p6, 0, none⟩) 1 1]), (gs, 31, [.slice A6 n6 c6, .slice A7 n7 c7, .slice A8 n8 c8]), (gr, 36, [.bool s6, .slice P6 q6 e6, .bool false, .slice P6' q6' e6']), (g10, 36, [.bool s203, .slice P203 q203 e203, .bool false, .slice P203' q203' e203'])] := by
   intro r hr
   simp only [List.mem_cons, List.not_mem_nil, or_false] at hr
   rcases hr with rfl | rfl | rfl | rfl
   ·exact HGP.out.later hl4
   ·exact HGS.out.later hl4
   ·exact HGR.out.later hl4
   ·exact rt
  clear hHeld HS8 r10 k30 k31 k32 k33 f30 f31 f32 f33 hwt
  simp only [Exit.inBlock, Exit.then]
  apply_assumption
  refine wp_mono (awake11_tail w wt _ _ _ _ _ _ _ _ _ _ _ _ _ _ _ gp gs gr g10 _ _ _ _ _ _ _ _ _ _ _ _ _ _ _ _ _ _ _ _ _ _ _ _ _ _ _ _ (HI.out.later hl4) (HSV.out.later hl4) (HX4.out.later EOwn.later ht) HCc HBt (HLW.out.trans hl4) _ _ _ _ _ _ _ _ _ _ _ _ _ _ _ _ _ _ _ _ _ _ _ _ _ _ _ _ _ _ _ _ _ _ _ _ _ _ _ _ _ _ _ _ _ _ _ _ _ _ _ _ _ _ _ _ _ _ _ _ _ _ _ _ _ _ _ _ _ _ _ _ _ _ _ _ _ _ _ _ _ _ _ _ _ _ _ _ _ _ _ _ _ _ _ _ _ _ _ _ _ _ _ _ _ _ _ (bodyPost Tryz.prog Tryz.f15 (RetV w (.bool true)) .ret) ?_) ?_
  ·intro a' w' hd h0 hL
   exact bodyPost_ret (results_b rfl h0) hd ⟨rfl, hL⟩
  ·intro e a' w' h
   cases e <;> first | exact h | exact h.elim
 refine AllReadyN.held rfl (by rfl) (fun K hK => ?_) AllReadyN.nil
 go_simp
 obtain ⟨W10, hW10⟩ : ∃ W, W = w104.alloc (Obj.cells #[Value.bool false, Value.slice none 0 0, Value.bool false, Value.slice none 0 0] 36) := ⟨_, rfl⟩
 obtain ⟨g10, hg10⟩ : ∃ g, g = w104.heap.size := ⟨_, rfl⟩
 have r10 : Row W10 g10 36 [.bool false, .slice none 0 0, .bool false, .slice none 0 0] := by rw [hW10, hg10]; exact Row.new _ _ _
 have hg104 : w104.heap.size <= g10 := by
  have h1 := (show Later w104 w104 from lt_).size
  rw [hg10]; exact h1
 have lW10 : Later w104 W10 := by rw [hW10]; exact (show Later w104 w104 from lt_).alloc _
 have R10 := hide r10
 rw [<- hW10, <- hg10]
 clear r10 hW10 hg10
 refine hK.out _ _ ?_ (fun hHeld => ?_)
 ·exact HT5.out _ lt_
 clear hK K
 try simp only [Act.put, s1_, s2_, s3_]
 refine wpAnyN_ready (rs := [1]) (by kernel_rfl) (by simp) ?_
 refine AllReadyN.held rfl (by rfl) (fun K hK => ?_) AllReadyN.nil
 go_simp
 refine (of11_calls _ 3 (by omega) (by omega) 3 div_3).mono ?_
 rintro e w201 ⟨v201, rfl, o201, b201⟩
 obtain ⟨s201, P201, q201, e201, P201', q201', e201', rfl, o201⟩ := o201.open_; have O201 := hide o201; clear o201
 have l201 : Later w104 w201 := Later.trans lt_ b201
 have m201 : Later W10 w201 := Later.trans lt_ b201
 refine hK.out _ _ ?_ (fun hHeld => ?_)
 ·exact HT5.out _ lt_
 clear hK K
 try simp only [Act.put, s1_, s2_, s3_]
 refine wpAnyN_ready (rs := [2]) (by kernel_rfl) (by simp) ?_
 refine AllReadyN.held rfl (by rfl) (fun K hK => ?_) AllReadyN.nil
 go_simp
 refine hK.out _ _ ?_ (fun hHeld => ?_)
 ·exact HT5.out _ lt_
 clear hK K
 try simp only [Act.put, s1_, s2_, s3_]
 refine wpAnyN_ready (rs := [3]) (by kernel_rfl) (by simp) ?_
 refine AllReadyN.held rfl (by rfl) (fun K hK => ?_) AllReadyN.nil
 go_simp
 refine (pcost_calls _ _ _ _ _ _ _ _ _ _ _ _ _ _ _ _ 1 awP (HI.out.later (Later.trans HL4.out lt_)) _ [3] 1 (Own.raw1 (rats_one (E := EOwn) (Row.later (Row.new _ _ _) lt_) ((OwnR.later O201.out lt_).weaken (Nat.zero_le _))) (sized_list1 (by simp))) (by omega)).mono ?_
 rintro e w203 ⟨v203, ok203, rfl, ⟨o203, rfl⟩, b203⟩
 rw [awP_costB]
 rw [awP_cost] at o203
 obtain ⟨s203, P203, q203, e203, P203', q203', e203', rfl, o203⟩ := o203.open_; have O203 := hide o203; clear o203
 have l203 : Later w104 w203 := Later.trans lt_ b203
 have m203 : Later W10 w203 := Later.trans lt_ b203
 refine hK.out _ _ ?_ (fun hHeld => ?_)
 ·exact HT5.out _ lt_
 clear hK K
 try simp only [Act.put, s1_, s2_, s3_]
 refine tkB 46 4 ?_
 refine tkB 51 5 ?_
 refine tkB 52 6 ?_
 refine wpAnyN_ready (rs := [8]) (by kernel_rfl) (by simp) ?_
 refine AllReadyN.held rfl (by rfl) (fun K hK => ?_) AllReadyN.nil
 have r10 := R10.out.later m203
 obtain ⟨k30, k31, k32, k33, f30, f31, f32, f33⟩ := row_cells4 r10
 have HS8 : Hid (((((w203.setCell ⟨g10, 0, none⟩ (.bool s203)).setCell ⟨g10, 1, none⟩ (.slice P203 q203 e203)).setCell ⟨g10, 2, none⟩ (.bool false)).setCell ⟨g10, 3, none⟩ (.slice P203' q203' e203')).cell? ⟨gp, 0, none⟩ = some (.slice (some ⟨p1, 0, none⟩) 1 1) /\ ((((w203.setCell ⟨g10, 0, none⟩ (.bool s203)).setCell ⟨g10, 1, none⟩ (.slice P203 q203 e203)).setCell ⟨g10, 2, none⟩ (.bool false)).setCell ⟨g10, 3, none⟩ (.slice P203' q203' e203')).cell? ⟨gp, 1, none⟩ = some (.slice (some ⟨p3, 0, none⟩) 1 1) /\ ((((w203.setCell ⟨g10, 0, none⟩ (.bool s203)).setCell ⟨g10, 1, none⟩ (.slice P203 q203 e203)).setCell ⟨g10, 2, none⟩ (.bool false)).setCell ⟨g10, 3, none⟩ (.slice P203' q203' e203')).cell? ⟨gp, 2, none⟩ = some (.slice (some ⟨p4, 0, none⟩) 1 1) /\ ((((w203.setCell ⟨g10, 0, none⟩ (.bool s203)).setCell ⟨g10, 1, none⟩ (.slice P203 q203 e203)).setCell ⟨g10, 2, none⟩ (.bool false)).setCell ⟨g10, 3, none⟩ (.slice P203' q203' e203')).cell? ⟨gp, 3, none⟩ = some (.slice (some ⟨p5, 0, none⟩) 1 1) /\ ((((w203.setCell ⟨g10, 0, none⟩ (.bool s203)).setCell ⟨g10, 1, none⟩ (.slice P203 q203 e203)).setCell ⟨g10, 2, none⟩ (.bool false)).setCell ⟨g10, 3, none⟩ (.slice P203' q203' e203')).cell? ⟨gp, 4, none⟩ = some (.slice (some ⟨p6, 0, none⟩) 1 1)) := hide (by
  have oo : Only g10 w203 ((((w203.setCell ⟨g10, 0, none⟩ (.bool s203)).setCell ⟨g10, 1, none⟩ (.slice P203 q203 e203)).setCell ⟨g10, 2, none⟩ (.bool false)).setCell ⟨g10, 3, none⟩ (.slice P203' q203' e203')) := Only.four _ _ _ _ _ _
  have hgl := HGP.out.lt
  have hg2 := HL4.out.size
  have h1 := (HGP.out.later (HL4.out.trans (show Later w104 w203 from l203))).only oo (by omega)
  exact ⟨h1.cell (i := 0) rfl, h1.cell (i := 1) rfl, h1.cell (i := 2) rfl, h1.cell (i := 3) rfl, h1.cell (i := 4) rfl⟩)
 go_simp
 refine hK.out _ _ ?_ (fun hHeld => ?_)
 ·exact HS8.out
 clear hK K
 try simp only [Act.put, s1_, s2_, s3_]
 refine tkB 11 9 ?_
 refine wpAnyN_done (by kernel_rfl) ?_ _
 obtain ⟨wt, hwt⟩ : ∃ W, W = ((((w203.setCell ⟨g10, 0, none⟩ (.bool s203)).setCell ⟨g10, 1, none⟩ (.slice P203 q203 e203)).setCell ⟨g10, 2, none⟩ (.bool false)).setCell ⟨g10, 3, none⟩ (.slice P203' q203' e203')) := ⟨_, rfl⟩
 rw [<- hwt]
 have oo : Only g10 w203 wt := by rw [hwt]; exact Only.four _ _ _ _ _ _
 have rt : Row wt g10 36 [.bool s203, .slice P203 q203 e203, .bool false, .slice P203' q203' e203'] := by rw [hwt]; exact r10.four _ _ _ _
 have ht : Later w104 wt := (show Later w104 w203 from l203).only oo hg104
 have HCc : OwnR wt 0 (.agg #[.bool s203, .slice P203 q203 e203, .bool false, .slice P203' q203' e203']) 3 := OwnR.keepU (OwnR.later O203.out (Later.refl w203)) (KeepU.only oo r10 (by decide))
 have hl4 := HL4.out.trans ht
 have HBt : Boxes wt [(gp, 26, [.slice (some ⟨p1, 0, none⟩) 1 1, .slice (some ⟨p3, 0, none⟩) 1 1, .slice (some ⟨p4, 0, none⟩) 1 1, .slice (some ⟨p5, 0, none⟩) 1 1, .slice (some ⟨p6, 0, none⟩) 1 1]), (gs, 31, [.slice A6 n6 c6, .slice A7 n7 c7, .slice A8 n8 c8]), (gr, 36, [.bool s6, .slice P6 q6 e6, .bool false, .slice P6' q6' e6']), (g10, 36, [.bool s203, .slice P203 q203 e203, .bool false, .slice P203' q203' e203'])] := by
  intro r hr
  simp only [List.mem_cons, List.not_mem_nil, or_false] at hr
  rcases hr with rfl | rfl | rfl | rfl
  ·exact HGP.out.later hl4
  ·exact HGS.out.later hl4
  ·exact HGR.out.later hl4
  ·exact rt
 clear hHeld HS8 r10 k30 k31 k32 k33 f30 f31 f32 f33 hwt
 simp only [Exit.inBlock, Exit.then]
 apply_assumption
 refine wp_mono (awake11_tail w wt _ _ _ _ _ _ _ _ _ _ _ _ _ _ _ gp gs gr g10 _ _ _ _ _ _ _ _ _ _ _ _ _ _ _ _ _ _ _ _ _ _ _ _ _ _ _ _ (HI.out.later hl4) (HSV.out.later hl4) (HX4.out.later EOwn.later ht) HCc HBt (HLW.out.trans hl4) _ _ _ _ _ _ _ _ _ _ _ _ _ _ _ _ _ _ _ _ _ _ _ _ _ _ _ _ _ _ _ _ _ _ _ _ _ _ _ _ _ _ _ _ _ _ _ _ _ _ _ _ _ _ _ _ _ _ _ _ _ _ _ _ _ _ _ _ _ _ _ _ _ _ _ _ _ _ _ _ _ _ _ _ _ _ _ _ _ _ _ _ _ _ _ _ _ _ _ _ _ _ _ _ _ _ _ (bodyPost Tryz.prog Tryz.f15 (RetV w (.bool true)) .ret) ?_) ?_
 ·intro a' w' hd h0 hL
  exact bodyPost_ret (results_b rfl h0) hd ⟨rfl, hL⟩
 ·intro e a' w' h
  cases e <;> first | exact h | exact h.elim
end Go.Proofs.YtfokplidiboabaaGreat
