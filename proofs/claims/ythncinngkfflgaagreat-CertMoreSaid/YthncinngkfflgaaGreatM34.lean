import Derived.Test.YthncinngkfflgaaGreatM33

/- Proofs of standard forms: the reference's Fulfils, Columns. -/
set_option linter.unusedVariables false
set_option linter.unusedSimpArgs false
set_option maxRecDepth 100000
namespace Go.Proofs.YthncinngkfflgaaGreat
open Go.RowKit Go.Shelf
attribute [local go_sem ↓] Go.wp_at_zero Go.wp_at_succ

/-- what stands at a place of the columns by row numbers -/
def colP (A : List (List Rat)) (u : List Rat) (j : Nat) : List Rat := List.zipWith (fun r x => r.getD j 0 * x) A u
theorem axpy_get {a b : List Rat} {q : Rat} {j : Nat} (h1 : j < a.length) (h2 : j < b.length) : (axpyL a b q).getD j 0 = a.getD j 0 + q * b.getD j 0 := by
  unfold axpyL
  simp only [List.getD_eq_getElem?_getD, List.getElem?_zipWith, List.getElem?_eq_getElem h1, List.getElem?_eq_getElem h2, Option.getD_some]
theorem colsL_get {A : List (List Rat)} {u : List Rat} {n j : Nat} (hA : ∀ r ∈ A, r.length = n) (hl : u.length = A.length) (hj : j < n) : ∀ m, m ≤ A.length → (colsL (A.take m) (u.take m) n).getD j 0 = sumR ((colP A u j).take m) := by
  intro m
  induction m with
  | zero => intro _; simp [colsL, sumR_nil, hj]
  | succ m ih =>
    intro hm
    obtain ⟨r, hr⟩ : ∃ r, A[m]? = some r := ⟨A[m]'(by omega), List.getElem?_eq_getElem _⟩
    obtain ⟨x, hx⟩ : ∃ x, u[m]? = some x := ⟨u[m]'(by omega), List.getElem?_eq_getElem _⟩
    have hrl := hA r (List.mem_of_getElem? hr)
    have hcl : (colsL (A.take m) (u.take m) n).length = n := colsL_len (fun r hr => hA r (List.mem_of_mem_take hr))
    rw [colsL_step hr hx, axpy_get (by omega) (by omega), ih (by omega)]
    have e : (colP A u j).take (m + 1) = (colP A u j).take m ++ [r.getD j 0 * x] := by
      rw [List.take_add_one]; unfold colP; rw [List.getElem?_zipWith, hr, hx]; rfl
    rw [e, sumR_snoc]
    grind
theorem colsL_eq {A : List (List Rat)} {u : List Rat} {n : Nat} (hA : ∀ r ∈ A, r.length = n) (hl : u.length = A.length) : colsL A u n = (List.range n).map fun j => sumR (colP A u j) := by
  apply List.ext_getElem
  · rw [colsL_len hA]; simp
  · intro j h1 h2
    have hj : j < n := by rw [colsL_len hA] at h1; exact h1
    have h := colsL_get hA hl hj A.length (Nat.le_refl _)
    rw [List.take_length, show u.take A.length = u by rw [← hl]; exact List.take_length, List.take_of_length_le (by unfold colP; rw [List.length_zipWith]; omega)] at h
    rw [List.getElem_map, List.getElem_range, ← h, List.getD_eq_getElem?_getD, List.getElem?_eq_getElem h1]; rfl
def ColAt (wo : World) (g : Nat) (ps : List Rat) (i : Nat) (wr : World) : Prop :=
  ∃ s A n c A' n' c', Row wr g 37 [.bool s, .slice A n c, .bool false, .slice A' n' c'] ∧ On wr (fun b => wo.heap.size ≤ b ∧ b ≠ g) (fun W => OwnR W 0 (.agg #[.bool s, .slice A n c, .bool false, .slice A' n' c']) (sumR (ps.take i))) ∧ Later wo wr ∧ wo.heap.size ≤ g

set_option maxHeartbeats 16000000 in
theorem rcolumns_calls (w : World) (vA vB vC vu : Value) (k m : Nat) (A : List (List Rat)) (B C u : List Rat) (ok : Bool) (hs : StdIn w vA vB vC k A B C ok) (hu : Rats (ERaw m) w vu u) (hm : m ≤ 1000) (hul : u.length ≤ 1000) :
    Calls Tryz.prog 58 #[.agg #[vA, vB, vC], vu] w (ColPost w A B C ok u 200000) := by
  have HS := hide hs; have HSZ := hide hs.sizes
  obtain ⟨A1, n1, c1, A2, n2, c2, A3, n3, c3, rfl, rfl, rfl, hn1, hn2, hn3⟩ := hs.form
  have HN1 := hide hn1; have HN2 := hide hn2; have HN3 := hide hn3
  clear hs hn1 hn2 hn3
  have HU := hide hu
  obtain ⟨A4, n4, c4, rfl, hn4, -⟩ := hu.form
  have HN4 := hide hn4; have HUS := hide hu.sized
  clear hu hn4
  have HUL := hide hul
  clear hul
  obtain ⟨u1, hu1⟩ : ∃ u, rightB A B C ok = u := ⟨_, rfl⟩
  have HU1 := hide hu1
  clear hu1
  obtain ⟨W0, hW0⟩ : ∃ W0, W0 = w.alloc (Obj.cells #[Value.slice A1 n1 c1, Value.slice A2 n2 c2, Value.slice A3 n3 c3] 25) := ⟨_, rfl⟩
  obtain ⟨hb0, r1, hsz0⟩ := boxes1 w [.slice A1 n1 c1, .slice A2 n2 c2, .slice A3 n3 c3] 25 hW0
  have B0 := hide hb0; have HW0 := hide hW0; have R0 := hide r1
  have d1 := r1.cell (i := 0) rfl; have d2 := r1.cell (i := 1) rfl; have d3 := r1.cell (i := 2) rfl
  clear r1 hb0 hW0 hsz0
  go_enter Tryz.func58, Tryz.ntmps58
  go_upto_region 1 with fail
  rw [← HW0.out]
  go_wp2_with fail
  clear d1 d2 d3
  have hrg := rright_std (HS.out.later B0.out)
  rw [HU1.out] at hrg
  ((with_reducible refine hrg.mono ?_); rintro e w1 ⟨rfl, b1⟩)
  have HL1 := hide b1
  have hrs := R0.out.later HL1.out
  have d1 := hrs.cell (i := 0) rfl; have d2 := hrs.cell (i := 1) rfl; have d3 := hrs.cell (i := 2) rfl
  clear hrs
  clear b1 hrg
  cases u1 with
  | false =>
    go_wp2_with fail
    go_ret2
    exact ⟨B0.out.trans HL1.out, .inr ⟨by unfold colOk; rw [HU1.out]; rfl, rfl⟩⟩
  | true =>
  have HRF := hide (rightB_facts HU1.out)
  by_cases hlen : n4 = n1
  rotate_left
  · have t1 : ((n4 : Int) != (n1 : Int)) = true := by rw [bne_iff_ne]; omega
    have HF : Hid (colOk A B C ok u = false) := hide (by unfold colOk; rw [HU1.out, show decide (u.length = A.length) = false by simp; rw [← HN4.out, ← HN1.out]; exact hlen]; rfl)
    go_wp2_with fail
    go_ret2
    exact ⟨B0.out.trans HL1.out, .inr ⟨HF.out, rfl⟩⟩
  have t1 : ((n4 : Int) != (n1 : Int)) = false := by rw [hlen]; simp
  have HLEN : Hid (u.length = A.length) := hide (by rw [← HN4.out, ← HN1.out]; exact hlen)
  have HCK : Hid (colOk A B C ok u = true) := hide (by unfold colOk; rw [HU1.out, show decide (u.length = A.length) = true by simpa using HLEN.out]; rfl)
  have HEQ := hide (colsL_eq (n := C.length) HRF.out.2.2.2.1 HLEN.out)
  have hn3 : n3 ≤ 80 := by rw [HN3.out]; exact HRF.out.2.1
  have hn1 : n1 ≤ 64 := by rw [HN1.out]; exact HRF.out.1
  have H41 := hide hlen
  have HPZ : Hid (∀ j i, Sized (sumR ((colP A u j).take i)) 200000) := hide fun j i => by
    have h1 : ∀ q ∈ colP A u j, Sized q (k + m + 2) := fun q hq => by
      obtain ⟨a, ha⟩ := List.getElem?_of_mem hq
      unfold colP at ha
      rw [List.getElem?_zipWith] at ha
      cases hr : A[a]? with
      | none => rw [hr] at ha; simp at ha
      | some r => cases hx : u[a]? with
        | none => rw [hr, hx] at ha; simp at ha
        | some x =>
          rw [hr, hx] at ha
          injection ha with ha
          subst ha
          have hx1 := HUS.out x (List.mem_of_getElem? hx)
          have hr1 : Sized (r.getD j 0) (k + 1) := by
            rw [List.getD_eq_getElem?_getD]
            cases hj : r[j]? with
            | none => exact sized_0.mono (by omega)
            | some z =>
              obtain ⟨_, _, _, _, _, _, _, hrr⟩ := HS.out.tab.at_ hr
              exact hrr.sized z (List.mem_of_getElem? hj)
          exact (hr1.mul hx1).mono (by omega)
    refine (sized_sumR (K := k + m + 2) fun q hq => h1 q (List.mem_of_mem_take hq)).mono ?_
    have h2 : ((colP A u j).take i).length ≤ 64 := by
      rw [List.length_take]; unfold colP; rw [List.length_zipWith]
      have := HN1.out
      omega
    have h3 := HSZ.out.1
    have h4 : ((colP A u j).take i).length * (k + m + 2 + 1) ≤ 64 * 2003 := Nat.mul_le_mul h2 (by omega)
    omega
  clear hlen
  go_wp2_with fail
  clear d1 d2 d3
  go_loopw [6, 7] (fun ov iv wr => ∃ j : Nat, j ≤ n3 ∧ iv = .int .i64 (j : Int) ∧ Hid (OutRats EOwn wr (fun b => W0.heap.size ≤ b) W0.heap.size ov ((List.range j).map fun j => sumR (colP A u j))) ∧ Later W0 wr) (fun _ iv _ => (n3 - intOf iv).toNat)
  case atStart => exact ⟨0, by omega, rfl, hide (OutRats.nil _ _ _ _), HL1.out⟩
  case round =>
    obtain ⟨j, hj, rfl, hout, hL⟩ := hrel
    obtain ⟨wo, hwo⟩ : ∃ wo, wo = wr := ⟨_, rfl⟩
    rw [← hwo] at hout hL ⊢
    have HLW := hide hL
    clear hL hwo wr
    have hrs := R0.out.later HLW.out
    have d1 := hrs.cell (i := 0) rfl; have d2 := hrs.cell (i := 1) rfl; have d3 := hrs.cell (i := 2) rfl
    clear hrs
    have hwos : w.heap.size < wo.heap.size := (R0.out.later HLW.out).lt
    by_cases hjn : j < n3
    · have hj0 : (0 : Int) ≤ (j : Int) := by omega
      go_wp2_with fail
      ((with_reducible refine (qzero_calls wo).mono ?_); rintro e w3 ⟨v3, rfl, o3, b3⟩)
      obtain ⟨s3, P3, q3, e3, P3', q3', e3', rfl, o3⟩ := o3.open_; have O3 := hide o3; clear o3
      clear d1 d2 d3
      go_upto_region 8 with fail
      obtain ⟨W3, hW3⟩ : ∃ W3, W3 = w3.alloc (Obj.cells #[Value.bool s3, Value.slice P3 q3 e3, Value.bool false, Value.slice P3' q3' e3'] 37) := ⟨_, rfl⟩
      obtain ⟨g, hg⟩ : ∃ g, g = w3.heap.size := ⟨_, rfl⟩
      have hb : Later w3 W3 := by rw [hW3]; exact (Later.refl _).alloc _
      have hr : Row W3 g 37 [.bool s3, .slice P3 q3 e3, .bool false, .slice P3' q3' e3'] := by rw [hW3, hg]; exact Row.new _ _ _
      rw [← hW3, ← hg]
      have HC0 : Hid (ColAt wo g (colP A u j) 0 W3) := hide ⟨_, _, _, _, _, _, _, hr, ((On.ownR O3.out).mono (fun b hb2 hlt => ⟨hb2, by rw [hg]; omega⟩)).later hb, b3.trans hb, by rw [hg]; exact b3.size⟩
      obtain ⟨ps, hps⟩ : ∃ ps, ps = colP A u j := ⟨_, rfl⟩
      rw [← hps] at HC0
      have HPS := hide hps
      clear hb hr hW3 hg b3 hps
      go_wp2_with fail
      go_loopw [9] (fun iv wr => ∃ i : Nat, i ≤ n4 ∧ iv = .int .i64 (i : Int) ∧ Hid (ColAt wo g ps i wr)) (fun iv _ => (n4 - intOf iv).toNat)
      case atStart => exact ⟨0, by omega, rfl, HC0⟩
      case round =>
        obtain ⟨i, hi, rfl, hrel⟩ := hrel
        obtain ⟨s, Z, n, c, Z', n', c', rg, os, hLo, hgB⟩ := hrel.out
        have HLO := hide hLo
        by_cases hin : i < n4
        · have hin1 : i < n1 := by have := H41.out; omega
          obtain ⟨row, hrow⟩ : ∃ x, A[i]? = some x := ⟨A[i]'(by have := HN1.out; omega), List.getElem?_eq_getElem _⟩
          obtain ⟨y, hy⟩ : ∃ x, u[i]? = some x := ⟨u[i]'(by have := HN4.out; omega), List.getElem?_eq_getElem _⟩
          have hrl := HRF.out.2.2.2.1 row (List.mem_of_getElem? hrow)
          have hrl3 : row.length = n3 := by rw [hrl, HN3.out]
          obtain ⟨x, hx⟩ : ∃ x, row[j]? = some x := ⟨row[j]'(by omega), List.getElem?_eq_getElem _⟩
          have hLW := B0.out.trans (HLW.out.trans hLo)
          obtain ⟨b1, off1, A7, n7, c7, rfl, x0, hrr⟩ := (HS.out.later hLW).tab.at_ hrow
          have hn7 : n7 = n3 := by rw [hrr.len_, hrl3]
          obtain ⟨b2, off2, sy, Y, ny, cy, sy', Y', ny', cy', rfl, y1, y2, y3, y4, ey⟩ := (HU.out.later ERaw.later hLW).at_ hy
          obtain ⟨b3, off3, sx, X, nx, cx, sx', X', nx', cx', rfl, x1, x2, x3, x4, ex⟩ := hrr.at_ hx
          have hp : ps[i]? = some (x * y) := by
            rw [HPS.out]; unfold colP
            rw [List.getElem?_zipWith, hrow, hy]
            show some (row.getD j 0 * y) = _
            rw [List.getD_eq_getElem?_getD, hx]; rfl
          have hsum : sumR (ps.take (i + 1)) = sumR (ps.take i) + x * y := by
            rw [List.take_add_one, hp]; exact sumR_snoc _ _
          have HSUM := hide hsum; have HLW2 := hide (hLo.drew)
          have hk1 := HSZ.out.1
          have HXS := hide ((((RawR.sized ex).mul (RawR.sized ey)).mono (by omega : k + 1 + (m + 1) ≤ k + m + 2)))
          have EX : Hid (RawR wr.drew (.agg #[.bool sx, .slice X nx cx, .bool sx', .slice X' nx' cx']) x k) := hide (RawR.later ex (Later.refl wr).drew); have EY : Hid (RawR wr.drew (.agg #[.bool sy, .slice Y ny cy, .bool sy', .slice Y' ny' cy']) y m) := hide (RawR.later ey (Later.refl wr).drew)
          have RG := hide rg.drew; have OS := hide (os.later (Later.refl wr).drew)
          have HSJ : Hid (Sized (sumR (ps.take i)) 10000000) := hide (by rw [HPS.out]; exact (HPZ.out j i).mono (by omega))
          have hsizes : g < wr.drew.heap.size := rg.lt
          have hi0 : (0 : Int) ≤ (i : Int) := by omega
          have hi1 : (i : Int) < n1 := by omega
          have hi4 : (i : Int) < n4 := by omega
          have hj7 : (j : Int) < n7 := by omega
          have hrs := R0.out.later (HLW.out.trans hLo.drew)
          have HT1 : Hid (∀ w', Later wr.drew w' → w'.cell? ⟨g, 0, none⟩ = some (.bool s) ∧ w'.cell? ⟨g, 1, none⟩ = some (.slice Z n c) ∧ w'.cell? ⟨g, 2, none⟩ = some (.bool false) ∧ w'.cell? ⟨g, 3, none⟩ = some (.slice Z' n' c') ∧ w'.cell? ⟨w.heap.size, 0, none⟩ = some (.slice (some ⟨b1, off1, none⟩) n1 c1) ∧ w'.cell? ⟨b1, off1 + i, none⟩ = some (.slice (some ⟨b3, off3, none⟩) n7 c7) ∧ w'.cell? ⟨b3, off3 + j * 4, none⟩ = some (.bool sx) ∧ w'.cell? ⟨b3, off3 + j * 4 + 1, none⟩ = some (.slice X nx cx) ∧ w'.cell? ⟨b3, off3 + j * 4 + 2, none⟩ = some (.bool sx') ∧ w'.cell? ⟨b3, off3 + j * 4 + 3, none⟩ = some (.slice X' nx' cx') ∧ w'.cell? ⟨b2, off2 + i * 4, none⟩ = some (.bool sy) ∧ w'.cell? ⟨b2, off2 + i * 4 + 1, none⟩ = some (.slice Y ny cy) ∧ w'.cell? ⟨b2, off2 + i * 4 + 2, none⟩ = some (.bool sy') ∧ w'.cell? ⟨b2, off2 + i * 4 + 3, none⟩ = some (.slice Y' ny' cy')) := hide fun w' hb => ⟨(RG.out.later hb).cell rfl, (RG.out.later hb).cell rfl, (RG.out.later hb).cell rfl, (RG.out.later hb).cell rfl, (hrs.later hb).cell rfl, Later.cell hb x0,
            Later.cell hb x1, Later.cell hb x2, Later.cell hb x3, Later.cell hb x4, Later.cell hb y1, Later.cell hb y2, Later.cell hb y3, Later.cell hb y4⟩
          have hmx : Tryz.prog.follows .mixedOrders = true := by kernel_rfl
          clear rg os hrel hx hy hp hsum x0 x1 x2 x3 x4 y1 y2 y3 y4 ex ey hrow hrr hrl hrl3 hrs hLW hLo HLW
          have HLW := HLW2
          clear HLW2
          go_upto_region 11 with fail
          refine wp_region_N (fun w' => w'.cell? ⟨g, 0, none⟩ = some (.bool s) ∧ w'.cell? ⟨g, 1, none⟩ = some (.slice Z n c) ∧ w'.cell? ⟨g, 2, none⟩ = some (.bool false) ∧ w'.cell? ⟨g, 3, none⟩ = some (.slice Z' n' c') ∧ w'.cell? ⟨w.heap.size, 0, none⟩ = some (.slice (some ⟨b1, off1, none⟩) n1 c1) ∧ w'.cell? ⟨b1, off1 + i, none⟩ = some (.slice (some ⟨b3, off3, none⟩) n7 c7) ∧ w'.cell? ⟨b3, off3 + j * 4, none⟩ = some (.bool sx) ∧ w'.cell? ⟨b3, off3 + j * 4 + 1, none⟩ = some (.slice X nx cx) ∧ w'.cell? ⟨b3, off3 + j * 4 + 2, none⟩ = some (.bool sx') ∧ w'.cell? ⟨b3, off3 + j * 4 + 3, none⟩ = some (.slice X' nx' cx') ∧ w'.cell? ⟨b2, off2 + i * 4, none⟩ = some (.bool sy) ∧ w'.cell? ⟨b2, off2 + i * 4 + 1, none⟩ = some (.slice Y ny cy) ∧ w'.cell? ⟨b2, off2 + i * 4 + 2, none⟩ = some (.bool sy') ∧ w'.cell? ⟨b2, off2 + i * 4 + 3, none⟩ = some (.slice Y' ny' cy')) [15] hmx (HT1.out _ (Later.refl _)) (fun hHeld => ?_)
          refine wpAnyN_takeD (some 35) (by rfl) (i := 0) (oi := _) (v := ?_) rfl (by kernel_rfl) (by kernel_rfl) (by kernel_rfl) (by kernel_rfl) (fun _ _ _ h => h) (Or.inl ⟨by rfl, ?_⟩) (by assumption) ?_
          rotate_left
          · intro w hSw; (try dsimp only at hSw); go_simp
            first | done | with_reducible rfl
          try simp only [Act.put, List.setIfInBounds_toArray, List.set_cons_zero, List.set_cons_succ]
          refine wpAnyN_takeD (some 36) (by rfl) (i := 1) (oi := _) (v := ?_) rfl (by kernel_rfl) (by kernel_rfl) (by kernel_rfl) (by kernel_rfl) (fun _ _ _ h => h) (Or.inl ⟨by rfl, ?_⟩) (by assumption) ?_
          rotate_left
          · intro w hSw; (try dsimp only at hSw); go_simp
            first | done | with_reducible rfl
          try simp only [Act.put, List.setIfInBounds_toArray, List.set_cons_zero, List.set_cons_succ]
          refine wpAnyN_takeD (some 37) (by rfl) (i := 2) (oi := _) (v := ?_) rfl (by kernel_rfl) (by kernel_rfl) (by kernel_rfl) (by kernel_rfl) (fun _ _ _ h => h) (Or.inl ⟨by rfl, ?_⟩) (by assumption) ?_
          rotate_left
          · intro w hSw; (try dsimp only at hSw); go_simp
            first | done | with_reducible rfl
          try simp only [Act.put, List.setIfInBounds_toArray, List.set_cons_zero, List.set_cons_succ]
          refine wpAnyN_takeD (some 38) (by rfl) (i := 3) (oi := _) (v := ?_) rfl (by kernel_rfl) (by kernel_rfl) (by kernel_rfl) (by kernel_rfl) (fun _ _ _ h => h) (Or.inl ⟨by rfl, ?_⟩) (by assumption) ?_
          rotate_left
          · intro w hSw; (try dsimp only at hSw); go_simp
            first | done | with_reducible rfl
          try simp only [Act.put, List.setIfInBounds_toArray, List.set_cons_zero, List.set_cons_succ]
          refine wpAnyN_takeD (some 39) (by rfl) (i := 4) (oi := _) (v := ?_) rfl (by kernel_rfl) (by kernel_rfl) (by kernel_rfl) (by kernel_rfl) (fun _ _ _ h => h) (Or.inl ⟨by rfl, ?_⟩) (by assumption) ?_
          rotate_left
          · intro w hSw; (try dsimp only at hSw); go_simp
            first | done | with_reducible rfl
          try simp only [Act.put, List.setIfInBounds_toArray, List.set_cons_zero, List.set_cons_succ]
          refine wpAnyN_takeD (some 40) (by rfl) (i := 5) (oi := _) (v := ?_) rfl (by kernel_rfl) (by kernel_rfl) (by kernel_rfl) (by kernel_rfl) (fun _ _ _ h => h) (Or.inl ⟨by rfl, ?_⟩) (by assumption) ?_
          rotate_left
          · intro w hSw; (try dsimp only at hSw); go_simp
            first | done | with_reducible rfl
          try simp only [Act.put, List.setIfInBounds_toArray, List.set_cons_zero, List.set_cons_succ]
          refine wpAnyN_takeD (some 41) (by rfl) (i := 6) (oi := _) (v := ?_) rfl (by kernel_rfl) (by kernel_rfl) (by kernel_rfl) (by kernel_rfl) (fun _ _ _ h => h) (Or.inl ⟨by rfl, ?_⟩) (by assumption) ?_
          rotate_left
          · intro w hSw; (try dsimp only at hSw); go_simp
            first | done | with_reducible rfl
          try simp only [Act.put, List.setIfInBounds_toArray, List.set_cons_zero, List.set_cons_succ]
          refine wpAnyN_takeD (some 42) (by rfl) (i := 7) (oi := _) (v := ?_) rfl (by kernel_rfl) (by kernel_rfl) (by kernel_rfl) (by kernel_rfl) (fun _ _ _ h => h) (Or.inl ⟨by rfl, ?_⟩) (by assumption) ?_
          rotate_left
          · intro w hSw; (try dsimp only at hSw); go_simp
            first | done | with_reducible rfl
          try simp only [Act.put, List.setIfInBounds_toArray, List.set_cons_zero, List.set_cons_succ]
          refine wpAnyN_takeD (some 43) (by rfl) (i := 8) (oi := _) (v := ?_) rfl (by kernel_rfl) (by kernel_rfl) (by kernel_rfl) (by kernel_rfl) (fun _ _ _ h => h) (Or.inl ⟨by rfl, ?_⟩) (by assumption) ?_
          rotate_left
          · intro w hSw; (try dsimp only at hSw); go_simp
            first | done | with_reducible rfl
          try simp only [Act.put, List.setIfInBounds_toArray, List.set_cons_zero, List.set_cons_succ]
          refine wpAnyN_takeD (some 44) (by rfl) (i := 9) (oi := _) (v := ?_) rfl (by kernel_rfl) (by kernel_rfl) (by kernel_rfl) (by kernel_rfl) (fun _ _ _ h => h) (Or.inl ⟨by rfl, ?_⟩) (by assumption) ?_
          rotate_left
          · intro w hSw; (try dsimp only at hSw); go_simp
            first | done | with_reducible rfl
          try simp only [Act.put, List.setIfInBounds_toArray, List.set_cons_zero, List.set_cons_succ]
          refine wpAnyN_takeD (some 45) (by rfl) (i := 10) (oi := _) (v := ?_) rfl (by kernel_rfl) (by kernel_rfl) (by kernel_rfl) (by kernel_rfl) (fun _ _ _ h => h) (Or.inl ⟨by rfl, ?_⟩) (by assumption) ?_
          rotate_left
          · intro w hSw; (try dsimp only at hSw); go_simp
            first | done | with_reducible rfl
          try simp only [Act.put, List.setIfInBounds_toArray, List.set_cons_zero, List.set_cons_succ]
          refine wpAnyN_takeD (some 46) (by rfl) (i := 11) (oi := _) (v := ?_) rfl (by kernel_rfl) (by kernel_rfl) (by kernel_rfl) (by kernel_rfl) (fun _ _ _ h => h) (Or.inl ⟨by rfl, ?_⟩) (by assumption) ?_
          rotate_left
          · intro w hSw; (try dsimp only at hSw); go_simp
            first | done | with_reducible rfl
          try simp only [Act.put, List.setIfInBounds_toArray, List.set_cons_zero, List.set_cons_succ]
          refine wpAnyN_takeD (some 47) (by rfl) (i := 12) (oi := _) (v := ?_) rfl (by kernel_rfl) (by kernel_rfl) (by kernel_rfl) (by kernel_rfl) (fun _ _ _ h => h) (Or.inl ⟨by rfl, ?_⟩) (by assumption) ?_
          rotate_left
          · intro w hSw; (try dsimp only at hSw); go_simp
            first | done | with_reducible rfl
          try simp only [Act.put, List.setIfInBounds_toArray, List.set_cons_zero, List.set_cons_succ]
          refine wpAnyN_ready (rs := [13]) (by kernel_rfl) (by simp) ?_
          refine AllReadyN.held rfl (by rfl) (fun K hK => ?_) AllReadyN.nil
          go_simp
          ((with_reducible refine (qmul_calls wr.drew _ _ x y k m EX.out EY.out (by omega)).mono ?_); rintro e w8 ⟨v8, rfl, o8, l13⟩)
          obtain ⟨s8, P8, q8, e8, P8', q8', e8', rfl, o8⟩ := o8.open_; have O8 := hide o8; clear o8
          refine hK.out _ _ ?_ (fun hHeld => ?_)
          · exact HT1.out _ l13
          clear hK K
          try simp only [Act.put, List.setIfInBounds_toArray, List.set_cons_zero, List.set_cons_succ]
          refine wpAnyN_ready (rs := [14]) (by kernel_rfl) (by simp) ?_
          refine AllReadyN.held rfl (by rfl) (fun K hK => ?_) AllReadyN.nil
          go_simp
          ((with_reducible refine (qadd_calls w8 _ _ (sumR (ps.take i)) (x * y) 10000000 (k + m + 2) ((OwnR.raw (OS.out.now) HSJ.out).later l13) (O8.out.raw HXS.out) (by omega)).mono ?_); rintro e w9 ⟨v9, rfl, o9, b9⟩)
          obtain ⟨s9, P9, q9, e9, P9', q9', e9', rfl, o9⟩ := o9.open_; have O9 := hide o9; clear o9
          have l14 : Later wr.drew w9 := l13.trans b9
          have hs8 := l13.size
          obtain ⟨d1, d2, d3, d4, d5, d6, d7, d8⟩ := row_cells4 (RG.out.later l14)
          refine hK.out _ _ ?_ (fun hHeld => ?_)
          · exact HT1.out _ l14
          clear hK K
          try simp only [Act.put, List.setIfInBounds_toArray, List.set_cons_zero, List.set_cons_succ]
          refine wpAnyN_ready (rs := [15]) (by kernel_rfl) (by simp) ?_
          refine AllReadyN.free rfl (by rfl) (by kernel_rfl) (fun K hK => ?_) AllReadyN.nil
          go_simp
          refine hK.out _ _ ?_
          clear hK K
          try simp only [Act.put, List.setIfInBounds_toArray, List.set_cons_zero, List.set_cons_succ]
          refine wpAnyN_done (by kernel_rfl) ?_ _
          have HRG := hide (RG.out.later l14)
          have hs5 := l14.size
          have HD2 : Hid (ColAt wo g ps (i + 1) ((((w9.setCell ⟨g, 0, none⟩ (.bool s9)).setCell ⟨g, 1, none⟩ (.slice P9 q9 e9)).setCell ⟨g, 2, none⟩ (.bool false)).setCell ⟨g, 3, none⟩ (.slice P9' q9' e9'))) := hide (by
            have oo := Only.four g w9 (.bool s9) (.slice P9 q9 e9) (.bool false) (.slice P9' q9' e9')
            refine ⟨_, _, _, _, _, _, _, HRG.out.four _ _ _ _, ?_, (HLW.out.trans l14).only oo hgB, hgB⟩
            rw [HSUM.out]
            exact ((On.ownR O9.out).mono (fun b hb _ => ⟨by omega, by omega⟩)).only oo (by simp))
          clear d1 d2 d3 d4 d5 d6 d7 d8 hHeld
          go_wp2_with fail
          exact ⟨⟨i + 1, by omega, by go_num, HD2⟩, by simp [intOf]; omega⟩

        · obtain rfl : n4 = i := by omega
          have hpl : ps.take n4 = ps := List.take_of_length_le (by rw [HPS.out]; unfold colP; rw [List.length_zipWith]; have := HN4.out; omega)
          rw [hpl, HPS.out] at os
          obtain ⟨d1, d2, d3, d4, -⟩ := row_cells4 rg
          have hblt := hout.out.lt
          have HOUT2 : Hid (∀ o, OutRats EOwn (wr.alloc o) (fun b => W0.heap.size ≤ b) W0.heap.size u6 ((List.range j).map fun j => sumR (colP A u j))) := hide fun o => hout.out.later (hLo.alloc o)
          have HROWX : Hid (Row (wr.alloc (Obj.cells #[Value.bool s, Value.slice Z n c, Value.bool false, Value.slice Z' n' c'] 37)) wr.heap.size 37 [.bool s, .slice Z n c, .bool false, .slice Z' n' c']) := hide (Row.new wr _ _)
          have hW0o := HLW.out.size
          have HEL : Hid (∀ o, On (wr.alloc o) (fun b => W0.heap.size ≤ b ∧ some b ≠ u6.ownBlock) (fun W => EOwn W (.agg #[.bool s, .slice Z n c, .bool false, .slice Z' n' c']) (sumR (colP A u j)))) := hide fun o => (os.mono (fun b hb _ => ⟨by omega, fun e => by have := (hblt _ e.symm).2; omega⟩)).later ((Later.refl wr).alloc o)
          have HBASE : Hid (∀ o, W0.heap.size ≤ (wr.alloc o).heap.size) := hide fun o => by have := hLo.size; rw [World.size_alloc]; omega
          have hln : ((List.range j).map fun j => sumR (colP A u j)).length ≤ 3000000000 := by simp; omega
          have HGL : Hid (∀ k, u6.ownBlock = some k → W0.heap.size ≤ k) := hide fun k hk => (hblt k hk).1
          clear os rg hrel hblt hpl hW0o
          go_wp2_with (at_builtin; refine wpList_append_rat rfl _ _ rfl rfl (HOUT2.out _) rfl HROWX.out (HEL.out _) hln (HBASE.out _) ?_; intro v20 w20 hout20 hg20)
          have HO20 : Hid (OutRats EOwn w20 (fun b => W0.heap.size ≤ b) W0.heap.size v20 ((List.range (j + 1)).map fun j => sumR (colP A u j))) := hide (by rw [List.range_succ, List.map_append]; exact hout20)
          have HL20 : Hid (Later W0 w20) := hide (Later.grown (HLW.out.trans (HLO.out.alloc _)) hg20 (fun k hk => HGL.out k hk))
          clear hout20 hg20 d1 d2 d3 d4
          try go_wp2_with fail
          exact ⟨⟨j + 1, by omega, by go_num, HO20, HL20.out⟩, by simp [intOf]; omega⟩
    · obtain rfl : n3 = j := by omega
      have HO9 : Hid (OwnRats wo w.heap.size u6 (colsL A u C.length)) := hide (by
        rw [HEQ.out, ← HN3.out]
        exact (hout.out.rats).mono (fun b hb hlt => by have := (R0.out).lt; rcases hb with h | h <;> omega))
      have HZ9 : Hid (∀ x ∈ colsL A u C.length, Sized x 200000) := hide (by
        rw [HEQ.out]
        intro x hx
        obtain ⟨a, -, rfl⟩ := List.mem_map.1 hx
        have h := HPZ.out a (colP A u a).length
        rw [List.take_length] at h
        exact h)
      go_wp2_with fail
      go_ret2
      exact ⟨B0.out.trans HLW.out, .inl ⟨HCK.out, _, rfl, HO9.out, HZ9.out⟩⟩
end Go.Proofs.YthncinngkfflgaaGreat


/- Proofs of standard forms: the reference's Best, None. -/
set_option linter.unusedVariables false
set_option linter.unusedSimpArgs false
set_option maxRecDepth 100000
namespace Go.Proofs.YthncinngkfflgaaGreat
open Go.RowKit Go.Shelf
attribute [local go_sem ↓] Go.wp_at_zero Go.wp_at_succ

theorem cmp_gt {a b : Rat} {cz : Int} (h : cmpQ a b = cz) : decide (0 < cz) = decide (b < a) := by
  subst h; unfold cmpQ
  by_cases h : a < b
  · have h2 : ¬ b < a := by grind
    simp [h, h2]
  · rw [if_neg h]
    split
    · rename_i h3; simp [h3]
    · rename_i h3; simp [h3]
theorem dot_bound3 {n k m : Nat} (hn : n ≤ 1000) (hk : k ≤ 1000) (hm : m ≤ 1000) : (n + 1) * (k + m + 4) ≤ 20000000 := by
  have h4 : (n + 1) * (k + m + 4) ≤ 1001 * 2004 := Nat.mul_le_mul (by omega) (by omega)
  omega
theorem axpy_at {a b : List Rat} {q x y : Rat} {i : Nat} (h1 : a[i]? = some x) (h2 : b[i]? = some y) : (axpyL a b q)[i]? = some (x + q * y) := by
  unfold axpyL
  rw [List.getElem?_zipWith, h1, h2]
theorem under_false {A : List (List Rat)} {B C u c : List Rat} {ok : Bool} {i : Nat} {x z : Rat} (h1 : (colsL A u C.length)[i]? = some x) (h2 : c[i]? = some z) (h : z < x) : underB A B C ok u c = false := by
  unfold underB
  have : (axpyL (colsL A u C.length) c (-1)).any (fun x => decide (0 < x)) = true := by
    rw [List.any_eq_true]
    exact ⟨_, List.mem_of_getElem? (axpy_at h1 h2), by simp only [decide_eq_true_eq]; grind⟩
  rw [this]; simp
theorem under_true {A : List (List Rat)} {B C u c : List Rat} {ok : Bool} (hc : colOk A B C ok u = true) (h : ∀ (i : Nat) x z, (colsL A u C.length)[i]? = some x → c[i]? = some z → ¬ z < x) : underB A B C ok u c = true := by
  unfold underB
  rw [hc]
  have : (axpyL (colsL A u C.length) c (-1)).any (fun x => decide (0 < x)) = false := by
    rw [List.any_eq_false]
    intro q hq
    obtain ⟨i, hi⟩ := List.getElem?_of_mem hq
    unfold axpyL at hi
    rw [List.getElem?_zipWith] at hi
    cases h1 : (colsL A u C.length)[i]? with
    | none => rw [h1] at hi; cases hi
    | some x =>
      cases h2 : c[i]? with
      | none => rw [h1, h2] at hi; cases hi
      | some z =>
        rw [h1, h2] at hi
        injection hi with hi
        have := h i x z h1 h2
        simp only [decide_eq_true_eq]
        grind
  rw [this]; rfl

set_option maxHeartbeats 8000000 in
theorem rnone_calls (w : World) (vA vB vC vu : Value) (k m : Nat) (A : List (List Rat)) (B C u : List Rat) (ok : Bool) (hs : StdIn w vA vB vC k A B C ok) (hu : Rats (ERaw m) w vu u) (hm : m ≤ 1000) (hul : u.length ≤ 1000) :
    Calls Tryz.prog 20 #[.agg #[vA, vB, vC], vu] w (RetV w (.bool (noneB A B C ok u))) := by
  have HS := hide hs; have HSZ := hide hs.sizes
  obtain ⟨A1, n1, c1, A2, n2, c2, A3, n3, c3, rfl, rfl, rfl, hn1, hn2, hn3⟩ := hs.form
  have HN1 := hide hn1; have HN2 := hide hn2; have HN3 := hide hn3
  clear hs hn1 hn2 hn3
  have HU := hide hu
  obtain ⟨A4, n4, c4, rfl, hn4, -⟩ := hu.form
  have HN4 := hide hn4; have HUS := hide hu.sized
  clear hu hn4
  have HUL := hide hul
  clear hul
  obtain ⟨W0, hW0⟩ : ∃ W0, W0 = w.alloc (Obj.cells #[Value.slice A1 n1 c1, Value.slice A2 n2 c2, Value.slice A3 n3 c3] 25) := ⟨_, rfl⟩
  obtain ⟨hb0, r1, hsz0⟩ := boxes1 w [.slice A1 n1 c1, .slice A2 n2 c2, .slice A3 n3 c3] 25 hW0
  have B0 := hide hb0; have HW0 := hide hW0; have R0 := hide r1
  have d1 := r1.cell (i := 0) rfl; have d2 := r1.cell (i := 1) rfl; have d3 := r1.cell (i := 2) rfl
  clear r1 hb0 hW0 hsz0
  go_enter Tryz.func20, Tryz.ntmps20
  go_upto_region 1 with fail
  rw [← HW0.out]
  go_wp2_with fail
  clear d1 d2 d3
  ((with_reducible refine (rcolumns_calls W0 _ _ _ _ k m A B C u ok (HS.out.later B0.out) (HU.out.later ERaw.later B0.out) hm HUL.out).mono ?_); rintro e w1 ⟨b1, hp1⟩)
  rcases hp1 with ⟨hck, v1, rfl, o1, hsz⟩ | ⟨hck, rfl⟩
  rotate_left
  · have HF := hide hck
    have HL1 := hide b1
    clear b1 hck
    go_wp2_with fail
    go_ret
    exact ⟨by unfold noneB underB; rw [HF.out]; simp, B0.out.trans HL1.out⟩
  have ho1 := On.now o1
  obtain ⟨A6, n6, c6, rfl, hn6, -⟩ := ho1.form
  have HCK := hide hck; have HN6 := hide hn6; have HL1 := hide b1
  have HSZ1 := hide hsz
  have HO1 : Hid (Rats (ERaw 200000) w1 (.slice A6 n6 c6) (colsL A u C.length)) := hide (ho1.map fun v q hq he => OwnR.raw (B := 0) he (hsz q hq))
  have hcl : (colsL A u C.length).length = C.length := colsL_len (fun r hr => by
    have := HCK.out
    unfold colOk at this
    simp only [Bool.and_eq_true] at this
    exact (rightB_facts this.1).2.2.2.1 r hr)
  have H63 : Hid (n6 = n3) := hide (by rw [hn6, hcl, HN3.out])
  have HCL := hide hcl
  clear hck ho1 b1 o1 hn6 hcl hsz
  go_wp2_with fail
  have hn6 : n6 ≤ 1000 := by rw [HN6.out, HCL.out]; exact HSZ.out.2.2.2.2
  go_loopw [7] (fun i wr => ∃ j : Nat, j ≤ n6 ∧ i = .int .i64 (j : Int) ∧ Hid (∀ (i : Nat) x z, i < j → (colsL A u C.length)[i]? = some x → (List.replicate C.length (0 : Rat))[i]? = some z → ¬ z < x) ∧ Later w1 wr) (fun i _ => (n6 - intOf i).toNat)
  case atStart => exact ⟨0, by omega, rfl, hide fun i r x hi => by omega, Later.refl _⟩
  case round =>
    obtain ⟨j, hj, rfl, hpre, hL⟩ := hrel
    have HBW := hide hL
    have HLW := hide (HL1.out.trans hL)
    clear hL
    by_cases hjn : j < n6
    · obtain ⟨x, hx⟩ : ∃ x, (colsL A u C.length)[j]? = some x := ⟨(colsL A u C.length)[j]'(by have := HN6.out; omega), List.getElem?_eq_getElem _⟩
      obtain ⟨z, hz⟩ : ∃ x, (List.replicate C.length (0 : Rat))[j]? = some x := ⟨(List.replicate C.length (0 : Rat))[j]'(by have := H63.out; have := HN3.out; simp; omega), List.getElem?_eq_getElem _⟩
      have HX := hide hx; have HZ := hide hz
      have hj0 : (0 : Int) ≤ (j : Int) := by omega
      have hj1 : (j : Int) < n6 := by omega
      have hj3 : (j : Int) < n3 := by have := H63.out; omega
      clear hx hz
      obtain ⟨b6, off6, sx, X, nx, cx, sx', X', nx', cx', rfl, x1, x2, x3, x4, xe⟩ := (HO1.out.later ERaw.later HBW.out).at_ HX.out
      have HXR : Hid (RawR wr (.agg #[.bool sx, .slice X nx cx, .bool sx', .slice X' nx' cx']) x 200000) := hide xe
      have hz0 : z = 0 := by
        have := HZ.out
        rw [List.getElem?_replicate] at this
        split at this
        · injection this with this; exact this.symm
        · cases this
      subst hz0
      obtain ⟨cz, hcz⟩ : ∃ cz, cmpQ x 0 = cz := ⟨_, rfl⟩
      have HCZ := hide hcz
      clear hcz xe
      go_wp2_with fail
      ((with_reducible refine (sign_calls wr _ x 200000 HXR.out (by omega) cz HCZ.out).mono ?_); rintro e w8 ⟨rfl, b8⟩)
      have HB8 := hide (HBW.out.trans b8)
      have HL8 := hide (HLW.out.trans b8)
      clear b8
      have hcg := cmp0_gt HCZ.out
      by_cases hzx : 0 < x
      · have HF : Hid (underB A B C ok u (List.replicate C.length (0 : Rat)) = false) := hide (under_false HX.out HZ.out hzx)
        have tz : decide (0 < cz) = true := by rw [hcg]; simpa using hzx
        clear hcg
        go_wp2_with fail
        go_ret
        exact ⟨by unfold noneB; rw [HF.out]; simp, B0.out.trans HL8.out⟩
      · have tz : decide (0 < cz) = false := by rw [hcg]; simpa using hzx
        have HN : Hid (∀ (i : Nat) x z, i < j + 1 → (colsL A u C.length)[i]? = some x → (List.replicate C.length (0 : Rat))[i]? = some z → ¬ z < x) := hide fun i x' z' hi h1 h2 => by
          by_cases hij : i < j
          · exact hpre.out i x' z' hij h1 h2
          · obtain rfl : i = j := by omega
            rw [HX.out] at h1; injection h1 with h1; rw [HZ.out] at h2; injection h2 with h2
            subst h1 h2
            exact hzx
        clear hcg
        go_wp2_with fail
        exact ⟨⟨j+1, by omega, by go_num, HN, HB8.out⟩, by simp [intOf]; omega⟩
    · obtain rfl : n6 = j := by omega
      have HUT : Hid (underB A B C ok u (List.replicate C.length (0 : Rat)) = true) := hide (under_true HCK.out fun i x z h1 h2 => hpre.out i x z (by rw [HN6.out]; exact (List.getElem?_eq_some_iff.1 h1).1) h1 h2)
      have HUF := hide (underB_facts HUT.out)
      clear hpre
      have hrs := R0.out.later HLW.out
      have d1 := hrs.cell (i := 0) rfl; have d2 := hrs.cell (i := 1) rfl; have d3 := hrs.cell (i := 2) rfl
      clear hrs
      go_wp2_with fail
      ((with_reducible refine (qdot_calls wr _ _ B u k m (HS.out.later (B0.out.trans HLW.out)).b (HU.out.later ERaw.later (B0.out.trans HLW.out)) HUF.out.2.2 (dot_bound3 HUF.out.1 HSZ.out.1 hm)).mono ?_); rintro e w3 ⟨v3, ok3, rfl, ⟨o3, rfl⟩, b3⟩)
      obtain ⟨s3, P3, q3, e3, P3', q3', e3', rfl, o3⟩ := o3.open_; have O3 := hide o3; clear o3
      have HL3 := hide (HLW.out.trans b3)
      clear b3 d1 d2 d3
      go_upto_region 10 with fail
      obtain ⟨W3, hW3⟩ : ∃ W3, W3 = w3.alloc (Obj.cells #[Value.bool s3, Value.slice P3 q3 e3, Value.bool false, Value.slice P3' q3' e3'] 37) := ⟨_, rfl⟩
      obtain ⟨g3, hg3⟩ : ∃ g3, g3 = w3.heap.size := ⟨_, rfl⟩
      have hb : Later w3 W3 := by rw [hW3]; exact (Later.refl _).alloc _
      have hr : Row W3 g3 37 [.bool s3, .slice P3 q3 e3, .bool false, .slice P3' q3' e3'] := by rw [hW3, hg3]; exact Row.new _ _ _
      rw [← hW3, ← hg3]
      have HO3 := hide (OwnR.later O3.out hb)
      have HLA := hide (HL3.out.trans hb)
      have HD3 : Hid (RawR W3 (.agg #[.bool s3, .slice P3 q3 e3, .bool false, .slice P3' q3' e3']) (dotL B u) 3100000) := hide (OwnR.raw HO3.out ((sized_dotL (HS.out.b).sized HUS.out).mono (dot_bound2 HUF.out.1 HSZ.out.1 hm)))
      obtain ⟨d1, d2, d3, d4, -⟩ := row_cells4 hr
      obtain ⟨cz, hcz⟩ : ∃ cz, cmpQ (dotL B u) 0 = cz := ⟨_, rfl⟩
      have HCZ := hide hcz
      clear hb hr hW3 hg3 hcz
      go_wp2_with fail
      ((with_reducible refine (sign_calls W3 _ (dotL B u) 3100000 HD3.out (by omega) cz HCZ.out).mono ?_); rintro e w5 ⟨rfl, b5⟩)
      have HL5 := hide (HLA.out.trans b5)
      clear b5
      go_wp2_with fail
      go_ret
      exact ⟨by unfold noneB; rw [HUT.out, ← cmp0_gt HCZ.out]; rfl, B0.out.trans HL5.out⟩

end Go.Proofs.YthncinngkfflgaaGreat
