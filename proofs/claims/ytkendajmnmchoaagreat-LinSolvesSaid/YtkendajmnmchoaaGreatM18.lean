import Derived.Test.YtkendajmnmchoaaGreatM17
import Derived.Test.YtkendajmnmchoaaGreatM11

/- Tables: Pivot where there is none. -/
set_option linter.unusedVariables false
set_option linter.unusedSimpArgs false
set_option maxRecDepth 100000
namespace Go.Proofs.YtkendajmnmchoaaGreat
open Go.RowKit Go.Shelf
attribute [local go_sem ↓] Go.wp_at_zero Go.wp_at_succ

/-- a place where a pivot may be -/
def GoodAt (t : List (List Rat)) (r c : Int) : Prop := ∃ i j : Nat, r = (i : Int) ∧ c = (j : Int) ∧ i < t.length ∧ j < (t.getD i []).length ∧ rectB t (t.getD i []).length = true ∧ (t.getD i []).getD j 0 ≠ 0

set_option maxHeartbeats 4000000 in
theorem pivot_bad (w : World) (v : Value) (t : List (List Rat)) (k : Nat) (r c : Int) (h : Tab (ERaw k) w v t) (hl : t.length ≤ 1000000) (hl2 : ∀ row ∈ t, row.length ≤ 1000000) (hk : k ≤ 10000000) (hbad : ¬ GoodAt t r c) :
    Calls Tryz.prog 7 #[v, .int .i64 r, .int .i64 c] w (Ret2 w fun w' v' o => v' = .slice none 0 0 ∧ o = .bool false) := by
  have H := hide h; have HL2 := hide hl2; have HBAD := hide hbad
  obtain ⟨A0, nt, ct, rfl, hnt, -, -, -⟩ := h.form
  have HNT := hide hnt
  clear h hl2 hbad hnt
  by_cases h1 : r < 0
  · have t1 : decide (r < 0) = true := by simpa using h1
    clear h1
    go_enter Tryz.func7, Tryz.ntmps7
    go_wp2_with fail
    go_ret2
    exact ⟨_, _, rfl, ⟨rfl, rfl⟩, Later.refl w⟩
  obtain ⟨i, rfl⟩ : ∃ i : Nat, r = (i : Int) := ⟨r.toNat, by omega⟩
  have t1 : decide ((i : Int) < 0) = false := by simp
  by_cases h2 : i < nt
  case neg =>
    have t2 : decide ((nt : Int) ≤ (i : Int)) = true := by simp; omega
    have t2n : decide (nt ≤ i) = true := by simp; omega
    clear h1 h2
    go_enter Tryz.func7, Tryz.ntmps7
    go_wp2_with fail
    go_ret2
    exact ⟨_, _, rfl, ⟨rfl, rfl⟩, Later.refl w⟩
  have t2 : decide ((nt : Int) ≤ (i : Int)) = false := by simp; omega
  have t2n : decide (nt ≤ i) = false := by simp; omega
  by_cases h3 : c < 0
  · have t3 : decide (c < 0) = true := by simpa using h3
    clear h1 h2 h3
    go_enter Tryz.func7, Tryz.ntmps7
    go_wp2_with fail
    go_ret2
    exact ⟨_, _, rfl, ⟨rfl, rfl⟩, Later.refl w⟩
  obtain ⟨j, rfl⟩ : ∃ j : Nat, c = (j : Int) := ⟨c.toNat, by omega⟩
  have t3 : decide ((j : Int) < 0) = false := by simp
  obtain ⟨row, hrow⟩ : ∃ row, t[i]? = some row := ⟨t[i]'(by have := HNT.out; omega), List.getElem?_eq_getElem _⟩
  have hgr : t.getD i [] = row := getD_of hrow
  have HGR := hide hgr
  obtain ⟨bt, ot, R1, rn, rc, rfl, x1, ex⟩ := H.out.at_ hrow
  have hrn : rn = row.length := by
    obtain ⟨_, _, _, e0, e1, -⟩ := ex.form
    injection e0 with _ e0 _
    rw [e0, e1]
  have HRN := hide hrn
  have hrl : row.length ≤ 1000000 := HL2.out row (List.mem_of_getElem? hrow)
  have hi0 : (0 : Int) ≤ (i : Int) := by omega
  have hi1 : (i : Int) < (nt : Int) := by omega
  have HI2 := hide h2
  clear h1 h2 h3 hrow hgr hrn
  by_cases h4 : j < rn
  case neg =>
    have t4 : decide ((rn : Int) ≤ (j : Int)) = true := by simp; omega
    have t4n : decide (rn ≤ j) = true := by simp; omega
    clear h4
    go_enter Tryz.func7, Tryz.ntmps7
    go_wp2_with fail
    go_ret2
    exact ⟨_, _, rfl, ⟨rfl, rfl⟩, Later.refl w⟩
  have t4 : decide ((rn : Int) ≤ (j : Int)) = false := by simp; omega
  have t4n : decide (rn ≤ j) = false := by simp; omega
  have hj0 : (0 : Int) ≤ (j : Int) := by omega
  have hj1 : (j : Int) < (rn : Int) := by omega
  have HJ2 := hide h4
  clear h4
  obtain ⟨u, hu⟩ : ∃ u, rectB t rn = u := ⟨_, rfl⟩
  have HU := hide hu
  clear hu
  go_enter Tryz.func7, Tryz.ntmps7
  go_wp2_with fail
  refine (rect_calls w _ t (ERaw k) ERaw.later H.out rn (by omega) (fun row hr => by have := HL2.out row hr; omega) u HU.out).mono ?_
  rintro e w1 ⟨rfl, b1⟩
  cases u with
  | false =>
    go_wp2_with fail
    go_ret2
    exact ⟨_, _, rfl, ⟨rfl, rfl⟩, b1⟩
  | true =>
  obtain ⟨q, hq⟩ : ∃ q, row[j]? = some q := ⟨row[j]'(by have := HRN.out; have := HJ2.out; omega), List.getElem?_eq_getElem _⟩
  have hq0 : q = 0 := by
    refine Classical.byContradiction fun hne => HBAD.out ⟨i, j, rfl, rfl, by rw [← HNT.out]; exact HI2.out, ?_, ?_, ?_⟩
    · rw [HGR.out, ← HRN.out]; exact HJ2.out
    · rw [HGR.out, ← HRN.out]; exact HU.out
    · rw [HGR.out, getD_of hq]; exact hne
  have x1 := Later.cell b1 x1
  obtain ⟨b2, off2, sx, A1, n1, c1, sx', A2, n2, c2, rfl, y1, y2, y3, y4, ey⟩ := (Rats.later ERaw.later ex b1).at_ hq
  have HEY := hide (show RawR w1 (.agg #[.bool sx, .slice A1 n1 c1, .bool sx', .slice A2 n2 c2]) q k from ey)
  have HQ0 := hide hq0
  have HB1 := hide b1
  clear ex ey hq hq0 b1
  go_wp2_with fail
  refine (is_calls w1 _ q k HEY.out (by omega) false (by rw [HQ0.out]; decide)).mono ?_
  rintro e w2 ⟨rfl, b2⟩
  go_wp2_with fail
  go_ret2
  exact ⟨_, _, rfl, ⟨rfl, rfl⟩, HB1.out.trans b2⟩
end Go.Proofs.YtkendajmnmchoaaGreat


/- The reference's Pivot where there is none. -/
set_option linter.unusedVariables false
set_option linter.unusedSimpArgs false
set_option maxRecDepth 100000
namespace Go.Proofs.YtkendajmnmchoaaGreat
open Go.RowKit Go.Shelf
attribute [local go_sem ↓] Go.wp_at_zero Go.wp_at_succ

set_option maxHeartbeats 4000000 in
theorem qpivot_bad (w : World) (v : Value) (t : List (List Rat)) (k : Nat) (r c : Int) (h : Tab (ERaw k) w v t) (hl : t.length ≤ 1000000) (hl2 : ∀ row ∈ t, row.length ≤ 1000000) (hk : k ≤ 10000000) (hbad : ¬ GoodAt t r c) :
    Calls Tryz.prog 8 #[v, .int .i64 r, .int .i64 c] w (Ret2 w fun w' v' o => v' = .slice none 0 0 ∧ o = .bool false) := by
  have H := hide h; have HL2 := hide hl2; have HBAD := hide hbad
  obtain ⟨A0, nt, ct, rfl, hnt, -, -, -⟩ := h.form
  have HNT := hide hnt
  clear h hl2 hbad hnt
  by_cases h1 : r < 0
  · have t1 : decide (r < 0) = true := by simpa using h1
    clear h1
    go_enter Tryz.func8, Tryz.ntmps8
    go_wp2_with fail
    go_ret2
    exact ⟨_, _, rfl, ⟨rfl, rfl⟩, Later.refl w⟩
  obtain ⟨i, rfl⟩ : ∃ i : Nat, r = (i : Int) := ⟨r.toNat, by omega⟩
  have t1 : decide ((i : Int) < 0) = false := by simp
  by_cases h2 : i < nt
  case neg =>
    have t2 : decide ((nt : Int) ≤ (i : Int)) = true := by simp; omega
    have t2n : decide (nt ≤ i) = true := by simp; omega
    clear h1 h2
    go_enter Tryz.func8, Tryz.ntmps8
    go_wp2_with fail
    go_ret2
    exact ⟨_, _, rfl, ⟨rfl, rfl⟩, Later.refl w⟩
  have t2 : decide ((nt : Int) ≤ (i : Int)) = false := by simp; omega
  have t2n : decide (nt ≤ i) = false := by simp; omega
  by_cases h3 : c < 0
  · have t3 : decide (c < 0) = true := by simpa using h3
    clear h1 h2 h3
    go_enter Tryz.func8, Tryz.ntmps8
    go_wp2_with fail
    go_ret2
    exact ⟨_, _, rfl, ⟨rfl, rfl⟩, Later.refl w⟩
  obtain ⟨j, rfl⟩ : ∃ j : Nat, c = (j : Int) := ⟨c.toNat, by omega⟩
  have t3 : decide ((j : Int) < 0) = false := by simp
  obtain ⟨row, hrow⟩ : ∃ row, t[i]? = some row := ⟨t[i]'(by have := HNT.out; omega), List.getElem?_eq_getElem _⟩
  have hgr : t.getD i [] = row := getD_of hrow
  have HGR := hide hgr
  obtain ⟨bt, ot, R1, rn, rc, rfl, x1, ex⟩ := H.out.at_ hrow
  have hrn : rn = row.length := by
    obtain ⟨_, _, _, e0, e1, -⟩ := ex.form
    injection e0 with _ e0 _
    rw [e0, e1]
  have HRN := hide hrn
  have hrl : row.length ≤ 1000000 := HL2.out row (List.mem_of_getElem? hrow)
  have hi0 : (0 : Int) ≤ (i : Int) := by omega
  have hi1 : (i : Int) < (nt : Int) := by omega
  have HI2 := hide h2
  clear h1 h2 h3 hrow hgr hrn
  by_cases h4 : j < rn
  case neg =>
    have t4 : decide ((rn : Int) ≤ (j : Int)) = true := by simp; omega
    have t4n : decide (rn ≤ j) = true := by simp; omega
    clear h4
    go_enter Tryz.func8, Tryz.ntmps8
    go_wp2_with fail
    go_ret2
    exact ⟨_, _, rfl, ⟨rfl, rfl⟩, Later.refl w⟩
  have t4 : decide ((rn : Int) ≤ (j : Int)) = false := by simp; omega
  have t4n : decide (rn ≤ j) = false := by simp; omega
  have hj0 : (0 : Int) ≤ (j : Int) := by omega
  have hj1 : (j : Int) < (rn : Int) := by omega
  have HJ2 := hide h4
  clear h4
  obtain ⟨u, hu⟩ : ∃ u, rectB t rn = u := ⟨_, rfl⟩
  have HU := hide hu
  clear hu
  go_enter Tryz.func8, Tryz.ntmps8
  go_wp2_with fail
  refine (qrect_calls w _ t (ERaw k) H.out rn (by omega) u HU.out).mono ?_
  rintro e w1 ⟨rfl, b1⟩
  cases u with
  | false =>
    go_wp2_with fail
    go_ret2
    exact ⟨_, _, rfl, ⟨rfl, rfl⟩, b1⟩
  | true =>
  obtain ⟨q, hq⟩ : ∃ q, row[j]? = some q := ⟨row[j]'(by have := HRN.out; have := HJ2.out; omega), List.getElem?_eq_getElem _⟩
  have hq0 : q = 0 := by
    refine Classical.byContradiction fun hne => HBAD.out ⟨i, j, rfl, rfl, by rw [← HNT.out]; exact HI2.out, ?_, ?_, ?_⟩
    · rw [HGR.out, ← HRN.out]; exact HJ2.out
    · rw [HGR.out, ← HRN.out]; exact HU.out
    · rw [HGR.out, getD_of hq]; exact hne
  have x1 := Later.cell b1 x1
  obtain ⟨b2, off2, sx, A1, n1, c1, sx', A2, n2, c2, rfl, y1, y2, y3, y4, ey⟩ := (Rats.later ERaw.later ex b1).at_ hq
  have HEY := hide (show RawR w1 (.agg #[.bool sx, .slice A1 n1 c1, .bool sx', .slice A2 n2 c2]) q k from ey)
  have HQ0 := hide hq0
  have HB1 := hide b1
  clear ex ey hq hq0 b1
  go_wp2_with fail
  refine (iszero_calls w1 _ q k HEY.out (by omega) true (by rw [HQ0.out]; decide)).mono ?_
  rintro e w2 ⟨rfl, b2⟩
  go_wp2_with fail
  go_ret2
  exact ⟨_, _, rfl, ⟨rfl, rfl⟩, HB1.out.trans b2⟩
end Go.Proofs.YtkendajmnmchoaaGreat


/- The reference's Pivot: where there is one. -/
set_option linter.unusedVariables false
set_option linter.unusedSimpArgs false
set_option maxRecDepth 100000
namespace Go.Proofs.YtkendajmnmchoaaGreat
open Go.RowKit Go.Shelf
attribute [local go_sem ↓] Go.wp_at_zero Go.wp_at_succ

set_option maxHeartbeats 16000000 in
theorem qpivot_calls (w : World) (v : Value) (t : List (List Rat)) (kk r c : Nat) (h : Tab (ERaw kk) w v t) (hr : r < t.length) (hl : t.length ≤ 1000000) (hrect : ∀ row ∈ t, row.length = (t.getD r []).length) (hc : c < (t.getD r []).length) (hrl : (t.getD r []).length ≤ 1000000) (hp : (t.getD r []).getD c 0 ≠ 0) (hk : kk ≤ 10000000) :
    Calls Tryz.prog 8 #[v, .int .i64 (r : Int), .int .i64 (c : Int)] w (Ret2 w fun w' v' o => OutTab EOwn w' (fun b => w.heap.size ≤ b) w.heap.size v' (pivL t r c) ∧ o = .bool true) := by
  have H := hide h
  obtain ⟨A0, nt, ct, rfl, hnt, -, -, -⟩ := h.form
  have HNT := hide hnt
  obtain ⟨trow, htr⟩ : ∃ row, t[r]? = some row := ⟨t[r], List.getElem?_eq_getElem hr⟩
  have hgr : t.getD r [] = trow := getD_of htr
  rw [hgr] at hrect hc hrl hp
  obtain ⟨p, hcp⟩ : ∃ p, trow[c]? = some p := ⟨trow[c], List.getElem?_eq_getElem hc⟩
  rw [getD_of hcp] at hp
  have HRECT := hide hrect; have HGR := hide hgr; have HCP := hide hcp; have HP0 := hide hp; have HTR := hide htr
  obtain ⟨bt, ot, R1, rn, rc, rfl, x1, ex⟩ := h.at_ htr
  have hrn : rn = trow.length := by
    obtain ⟨_, _, _, e0, e1, -⟩ := ex.form
    injection e0 with _ e0 _
    rw [e0, e1]
  obtain ⟨br, ofr, x2s, A2, n2, c2, x2s', A2', n2', c2', rfl, y1, y2, y3, y4, ey⟩ := ex.at_ hcp
  have HXR := hide ex
  have HPR : Hid (RawR w (.agg #[.bool x2s, .slice A2 n2 c2, .bool x2s', .slice A2' n2' c2']) p kk) := hide ey
  have HRN := hide hrn
  have hrt : rectB t rn = true := by
    unfold rectB
    rw [List.all_eq_true]
    intro row hrow
    rw [hrect row hrow, hrn]; simp
  have HRT := hide hrt
  have hr1 : (r : Int) < (nt : Int) := by omega
  have hc1 : (c : Int) < (rn : Int) := by omega
  have t1 : decide ((r : Int) < 0) = false := by simp
  have t2 : decide ((nt : Int) ≤ (r : Int)) = false := by simp; omega
  have t2n : decide (nt ≤ r) = false := by simp; omega
  have t3 : decide ((c : Int) < 0) = false := by simp
  have t4 : decide ((rn : Int) ≤ (c : Int)) = false := by simp; omega
  have t4n : decide (rn ≤ c) = false := by simp; omega
  have hr0 : (0 : Int) ≤ (r : Int) := by omega
  have hc0 : (0 : Int) ≤ (c : Int) := by omega
  have HX1 : Hid (∀ W, Later w W → W.cell? ⟨bt, ot + r, none⟩ = some (.slice (some ⟨br, ofr, none⟩) rn rc)) := hide fun W hW => Later.cell hW x1
  have HY1 : Hid (∀ W, Later w W → W.cell? ⟨br, ofr + c * 4, none⟩ = some (.bool x2s) ∧ W.cell? ⟨br, ofr + c * 4 + 1, none⟩ = some (.slice A2 n2 c2) ∧ W.cell? ⟨br, ofr + c * 4 + 2, none⟩ = some (.bool x2s') ∧ W.cell? ⟨br, ofr + c * 4 + 3, none⟩ = some (.slice A2' n2' c2')) := hide fun W hW => ⟨Later.cell hW y1, Later.cell hW y2, Later.cell hW y3, Later.cell hW y4⟩
  have HTL : Hid (t.length ≤ 1000000) := hide hl
  have hrn6 : rn ≤ 1000000 := by omega
  have hnt6 : nt ≤ 1000000 := by omega
  clear h hrect hgr hcp hp htr ex ey y1 y2 y3 y4 hrn hrt hl hnt hr hc hrl
  go_enter Tryz.func8, Tryz.ntmps8
  go_wp2_with fail
  refine (qrect_calls w _ t (ERaw kk) H.out rn (by have := HTL.out; omega) true HRT.out).mono ?_
  rintro e w1 ⟨rfl, b1⟩
  have hx1 := HX1.out w1 b1
  obtain ⟨y1, y2, y3, y4⟩ := HY1.out w1 b1
  have HB1 := hide b1
  clear x1 b1
  go_wp2_with fail
  refine (iszero_calls w1 _ p kk (HPR.out.later HB1.out) (by omega) false (by simpa using HP0.out)).mono ?_
  rintro e w2 ⟨rfl, b2⟩
  have HL2 := hide (HB1.out.trans b2)
  clear b2 hx1 y1 y2 y3 y4 t1 t2 t3 t4 t2n t4n
  go_wp2_with fail
  go_loopw [8, 9] (fun ov iv wr => ∃ i : Nat, i ≤ nt ∧ iv = .int .i64 (i : Int) ∧ OutTab EOwn wr (fun b => w.heap.size ≤ b) w.heap.size ov (pivTo t r c i) ∧ Later w wr) (fun _ iv _ => (nt - intOf iv).toNat)
  case atStart => exact ⟨0, by omega, rfl, OutTab.nil _ _ _ _, HL2.out⟩
  case round =>
    obtain ⟨i, hi, rfl, hout, hL⟩ := hrel
    by_cases hin : i < nt
    · obtain ⟨irow, hir⟩ : ∃ row, t[i]? = some row := ⟨t[i]'(by have := HNT.out; omega), List.getElem?_eq_getElem _⟩
      obtain ⟨bt', ot', S1, sn, sc, e0, z1, ez⟩ := H.out.at_ hir
      injection e0 with e0; injection e0 with e1 e2
      subst e1; subst e2
      have hsn : rn = sn := by
        obtain ⟨_, _, _, e0, e1, -⟩ := ez.form
        injection e0 with _ e0 _
        rw [e0, e1, HRECT.out irow (List.mem_of_getElem? hir), HRN.out]
      have hirl : irow.length = rn := by rw [HRECT.out irow (List.mem_of_getElem? hir), HRN.out]
      have hpr : (pivRow t r c i).length = rn := by
        unfold pivRow ownL axpyL
        rw [HGR.out]
        split
        · rw [List.length_map, HRN.out]
        · rw [List.length_zipWith, List.length_map, getD_of hir, hirl, HRN.out, Nat.min_self]
      subst hsn
      have HIR := hide hir; have HEZ := hide ez; have HPRL := hide hpr; have HIRL := hide hirl
      have HZ1 : Hid (∀ W, Later w W → W.cell? ⟨bt, ot + i, none⟩ = some (.slice S1 rn sc)) := hide fun W hW => Later.cell hW z1
      have hi0 : (0 : Int) ≤ (i : Int) := by omega
      have hi1 : (i : Int) < (nt : Int) := by omega
      have HOUT := hide hout; have HLO := hide hL
      have hwr := hL.size_le; have hblt := hout.lt
      clear hir z1 ez hpr hirl hout hL
      go_wp2_with fail
      obtain ⟨wo, hwo⟩ : ∃ wo, wo = wr := ⟨_, rfl⟩
      rw [← hwo] at HOUT HLO hwr hblt ⊢
      clear hwo
      clear wr
      go_loopw [10, 11] (fun ov kv wi => ∃ k : Nat, k ≤ rn ∧ kv = .int .i64 (k : Int) ∧ OutRats EOwn wi (fun b => wo.heap.size ≤ b) wo.heap.size ov ((pivRow t r c i).take k) ∧ Later wo wi) (fun _ kv _ => (rn - intOf kv).toNat)
      case atStart => exact ⟨0, by omega, rfl, OutRats.nil _ _ _ _, Later.refl _⟩
      case round =>
        obtain ⟨k, hk1, rfl, hr, hi⟩ := hrel
        have hlw := HLO.out.trans hi
        have hz1 := HZ1.out wr hlw
        by_cases hkn : k < rn
        · obtain ⟨x, hx⟩ : ∃ x, trow[k]? = some x := ⟨trow[k]'(by have := HRN.out; omega), List.getElem?_eq_getElem _⟩
          obtain ⟨y, hy⟩ : ∃ y, irow[k]? = some y := ⟨irow[k]'(by have := HIRL.out; omega), List.getElem?_eq_getElem _⟩
          obtain ⟨z, hz⟩ : ∃ z, irow[c]? = some z := ⟨irow[c]'(by have := HIRL.out; omega), List.getElem?_eq_getElem _⟩
          obtain ⟨bq, oq, x1s, A1, n1, c1, x1s', A1', n1', c1', e0, xa, xb, xc, xd, exx⟩ := HXR.out.at_ hx
          injection e0 with e0; injection e0 with e0 e0'
          subst e0; subst e0'
          obtain ⟨bi, ofi, x3s, A3, n3, c3, x3s', A3', n3', c3', rfl, ya, yb, yc, yd, eyy⟩ := HEZ.out.at_ hy
          obtain ⟨bq, oq, x4s, A4, n4, c4, x4s', A4', n4', c4', e0, za, zb, zc, zd, ezz⟩ := HEZ.out.at_ hz
          injection e0 with e0; injection e0 with e0 e0'
          subst e0; subst e0'
          have HTK : Hid ((pivRow t r c i).take (k+1) = (pivRow t r c i).take k ++ [if i = r then x / p else y - z * (x / p)]) := hide (by
            rw [List.take_add_one]
            congr 1
            have hgi := getD_of (d := []) HIR.out
            have hgc := getD_of (d := (0 : Rat)) hz
            unfold pivRow ownL axpyL
            rw [HGR.out, getD_of HCP.out]
            split
            · rw [List.getElem?_map, hx]; rfl
            · rw [hgi, hgc, List.getElem?_zipWith, hy, List.getElem?_map, hx]
              simp only [Option.map_some, Option.toList_some]
              congr 1; grind)
          obtain ⟨wi, hwi⟩ : ∃ wi, wi = wr := ⟨_, rfl⟩
          rw [← hwi] at hr hi hlw hz1 ⊢
          clear hwi wr
          have hk0 : (0 : Int) ≤ (k : Int) := by omega
          have hk2 : (k : Int) < (rn : Int) := by omega
          have HLW := hide hlw
          have HS11 : Hid (∀ w', Later wi.drew w' → w'.cell? ⟨bt, ot + r, none⟩ = some (.slice (some ⟨br, ofr, none⟩) rn rc) ∧ w'.cell? ⟨br, ofr + k * 4, none⟩ = some (.bool x1s) ∧ w'.cell? ⟨br, ofr + k * 4 + 1, none⟩ = some (.slice A1 n1 c1) ∧ w'.cell? ⟨br, ofr + k * 4 + 2, none⟩ = some (.bool x1s') ∧ w'.cell? ⟨br, ofr + k * 4 + 3, none⟩ = some (.slice A1' n1' c1') ∧ w'.cell? ⟨br, ofr + c * 4, none⟩ = some (.bool x2s) ∧ w'.cell? ⟨br, ofr + c * 4 + 1, none⟩ = some (.slice A2 n2 c2) ∧ w'.cell? ⟨br, ofr + c * 4 + 2, none⟩ = some (.bool x2s') ∧ w'.cell? ⟨br, ofr + c * 4 + 3, none⟩ = some (.slice A2' n2' c2')) := hide fun w' hb => by
            have hl := HLW.out.trans ((Later.refl wi).drew.trans hb)
            exact ⟨HX1.out _ hl, Later.cell hl xa, Later.cell hl xb, Later.cell hl xc, Later.cell hl xd, HY1.out _ hl⟩
          have HX : Hid (RawR wi.drew (.agg #[.bool x1s, .slice A1 n1 c1, .bool x1s', .slice A1' n1' c1']) x kk) := hide (RawR.later exx (hlw.trans (Later.refl wi).drew))
          have HP : Hid (RawR wi.drew (.agg #[.bool x2s, .slice A2 n2 c2, .bool x2s', .slice A2' n2' c2']) p kk) := hide (HPR.out.later (hlw.trans (Later.refl wi).drew))
          have HYC : Hid (∀ W, Later w W → W.cell? ⟨bi, ofi + k * 4, none⟩ = some (.bool x3s) ∧ W.cell? ⟨bi, ofi + k * 4 + 1, none⟩ = some (.slice A3 n3 c3) ∧ W.cell? ⟨bi, ofi + k * 4 + 2, none⟩ = some (.bool x3s') ∧ W.cell? ⟨bi, ofi + k * 4 + 3, none⟩ = some (.slice A3' n3' c3') ∧ W.cell? ⟨bi, ofi + c * 4, none⟩ = some (.bool x4s) ∧ W.cell? ⟨bi, ofi + c * 4 + 1, none⟩ = some (.slice A4 n4 c4) ∧ W.cell? ⟨bi, ofi + c * 4 + 2, none⟩ = some (.bool x4s') ∧ W.cell? ⟨bi, ofi + c * 4 + 3, none⟩ = some (.slice A4' n4' c4')) := hide fun W hW => ⟨Later.cell hW ya, Later.cell hW yb, Later.cell hW yc, Later.cell hW yd, Later.cell hW za, Later.cell hW zb, Later.cell hW zc, Later.cell hW zd⟩
          have HY : Hid (RawR w (.agg #[.bool x3s, .slice A3 n3 c3, .bool x3s', .slice A3' n3' c3']) y kk) := hide eyy
          have HZ : Hid (RawR w (.agg #[.bool x4s, .slice A4 n4 c4, .bool x4s', .slice A4' n4' c4']) z kk) := hide ezz
          have HROW := hide hr; have HI := hide hi
          have hblt2 := hr.lt
          have hwi2 := hi.size_le
          have hmx : Tryz.prog.follows .mixedOrders = true := by kernel_rfl
          clear hx hy hz xa xb xc xd ya yb yc yd za zb zc zd exx eyy ezz hr hi hlw
          go_upto_region 11 with fail
          go_cut [12] (fun pv wx => ∃ g s1 P1 q1 e1 P1' q1' e1', pv = .pointer (some ⟨g, 0, none⟩) ∧ Row wx g 32 [.bool s1, .slice P1 q1 e1, .bool false, .slice P1' q1' e1'] ∧ OwnR wx wi.heap.size (.agg #[.bool s1, .slice P1 q1 e1, .bool false, .slice P1' q1' e1']) (x / p) ∧ wi.heap.size ≤ g ∧ Later wi wx)
          have kZ : Later wi.drew ((wi.alloc (Obj.cells #[Value.bool false, Value.slice none 0 0, Value.bool false, Value.slice none 0 0] 32)).drew) := show Later wi.drew (wi.drew.alloc _) from (Later.refl _).alloc _
          have rZ : Row ((wi.alloc (Obj.cells #[Value.bool false, Value.slice none 0 0, Value.bool false, Value.slice none 0 0] 32)).drew) wi.heap.size 32 [.bool false, .slice none 0 0, .bool false, .slice none 0 0] := show Row (wi.drew.alloc _) wi.drew.heap.size _ _ from Row.new _ _ _
          case first =>
            refine wp_region_N (fun w' => w'.cell? ⟨bt, ot + r, none⟩ = some (.slice (some ⟨br, ofr, none⟩) rn rc) ∧ w'.cell? ⟨br, ofr + k * 4, none⟩ = some (.bool x1s) ∧ w'.cell? ⟨br, ofr + k * 4 + 1, none⟩ = some (.slice A1 n1 c1) ∧ w'.cell? ⟨br, ofr + k * 4 + 2, none⟩ = some (.bool x1s') ∧ w'.cell? ⟨br, ofr + k * 4 + 3, none⟩ = some (.slice A1' n1' c1') ∧ w'.cell? ⟨br, ofr + c * 4, none⟩ = some (.bool x2s) ∧ w'.cell? ⟨br, ofr + c * 4 + 1, none⟩ = some (.slice A2 n2 c2) ∧ w'.cell? ⟨br, ofr + c * 4 + 2, none⟩ = some (.bool x2s') ∧ w'.cell? ⟨br, ofr + c * 4 + 3, none⟩ = some (.slice A2' n2' c2')) [] hmx (HS11.out _ (Later.refl _)) (fun hHeld => ?_)
            refine wpAnyN_take (i := 0) (oi := _) (v := ?_) rfl (by kernel_rfl) (by kernel_rfl) (by kernel_rfl) (by kernel_rfl) (fun _ _ _ h => h) (Or.inl ⟨by rfl, ?_⟩) (by assumption) ?_
            rotate_left
            · intro w hSw; (try dsimp only at hSw); go_simp
              first | done | with_reducible rfl
            try simp only [Act.put, List.setIfInBounds_toArray, List.set_cons_zero, List.set_cons_succ]
            refine wpAnyN_take (i := 1) (oi := _) (v := ?_) rfl (by kernel_rfl) (by kernel_rfl) (by kernel_rfl) (by kernel_rfl) (fun _ _ _ h => h) (Or.inl ⟨by rfl, ?_⟩) (by assumption) ?_
            rotate_left
            · intro w hSw; (try dsimp only at hSw); go_simp
              first | done | with_reducible rfl
            try simp only [Act.put, List.setIfInBounds_toArray, List.set_cons_zero, List.set_cons_succ]
            refine wpAnyN_take (i := 2) (oi := _) (v := ?_) rfl (by kernel_rfl) (by kernel_rfl) (by kernel_rfl) (by kernel_rfl) (fun _ _ _ h => h) (Or.inl ⟨by rfl, ?_⟩) (by assumption) ?_
            rotate_left
            · intro w hSw; (try dsimp only at hSw); go_simp
              first | done | with_reducible rfl
            try simp only [Act.put, List.setIfInBounds_toArray, List.set_cons_zero, List.set_cons_succ]
            refine wpAnyN_take (i := 3) (oi := _) (v := ?_) rfl (by kernel_rfl) (by kernel_rfl) (by kernel_rfl) (by kernel_rfl) (fun _ _ _ h => h) (Or.inl ⟨by rfl, ?_⟩) (by assumption) ?_
            rotate_left
            · intro w hSw; (try dsimp only at hSw); go_simp
              first | done | with_reducible rfl
            try simp only [Act.put, List.setIfInBounds_toArray, List.set_cons_zero, List.set_cons_succ]
            refine wpAnyN_take (i := 4) (oi := _) (v := ?_) rfl (by kernel_rfl) (by kernel_rfl) (by kernel_rfl) (by kernel_rfl) (fun _ _ _ h => h) (Or.inl ⟨by rfl, ?_⟩) (by assumption) ?_
            rotate_left
            · intro w hSw; (try dsimp only at hSw); go_simp
              first | done | with_reducible rfl
            try simp only [Act.put, List.setIfInBounds_toArray, List.set_cons_zero, List.set_cons_succ]
            refine wpAnyN_take (i := 5) (oi := _) (v := ?_) rfl (by kernel_rfl) (by kernel_rfl) (by kernel_rfl) (by kernel_rfl) (fun _ _ _ h => h) (Or.inl ⟨by rfl, ?_⟩) (by assumption) ?_
            rotate_left
            · intro w hSw; (try dsimp only at hSw); go_simp
              first | done | with_reducible rfl
            try simp only [Act.put, List.setIfInBounds_toArray, List.set_cons_zero, List.set_cons_succ]
            refine wpAnyN_take (i := 6) (oi := _) (v := ?_) rfl (by kernel_rfl) (by kernel_rfl) (by kernel_rfl) (by kernel_rfl) (fun _ _ _ h => h) (Or.inl ⟨by rfl, ?_⟩) (by assumption) ?_
            rotate_left
            · intro w hSw; (try dsimp only at hSw); go_simp
              first | done | with_reducible rfl
            try simp only [Act.put, List.setIfInBounds_toArray, List.set_cons_zero, List.set_cons_succ]
            refine wpAnyN_take (i := 7) (oi := _) (v := ?_) rfl (by kernel_rfl) (by kernel_rfl) (by kernel_rfl) (by kernel_rfl) (fun _ _ _ h => h) (Or.inl ⟨by rfl, ?_⟩) (by assumption) ?_
            rotate_left
            · intro w hSw; (try dsimp only at hSw); go_simp
              first | done | with_reducible rfl
            try simp only [Act.put, List.setIfInBounds_toArray, List.set_cons_zero, List.set_cons_succ]
            refine wpAnyN_take (i := 8) (oi := _) (v := ?_) rfl (by kernel_rfl) (by kernel_rfl) (by kernel_rfl) (by kernel_rfl) (fun _ _ _ h => h) (Or.inl ⟨by rfl, ?_⟩) (by assumption) ?_
            rotate_left
            · intro w hSw; (try dsimp only at hSw); go_simp
              first | done | with_reducible rfl
            try simp only [Act.put, List.setIfInBounds_toArray, List.set_cons_zero, List.set_cons_succ]
            refine wpAnyN_take (i := 9) (oi := _) (v := ?_) rfl (by kernel_rfl) (by kernel_rfl) (by kernel_rfl) (by kernel_rfl) (fun _ _ _ h => h) (Or.inl ⟨by rfl, ?_⟩) (by assumption) ?_
            rotate_left
            · intro w hSw; (try dsimp only at hSw); go_simp
              first | done | with_reducible rfl
            try simp only [Act.put, List.setIfInBounds_toArray, List.set_cons_zero, List.set_cons_succ]
            refine wpAnyN_take (i := 10) (oi := _) (v := ?_) rfl (by kernel_rfl) (by kernel_rfl) (by kernel_rfl) (by kernel_rfl) (fun _ _ _ h => h) (Or.inl ⟨by rfl, ?_⟩) (by assumption) ?_
            rotate_left
            · intro w hSw; (try dsimp only at hSw); go_simp
              first | done | with_reducible rfl
            try simp only [Act.put, List.setIfInBounds_toArray, List.set_cons_zero, List.set_cons_succ]
            refine wpAnyN_take (i := 11) (oi := _) (v := ?_) rfl (by kernel_rfl) (by kernel_rfl) (by kernel_rfl) (by kernel_rfl) (fun _ _ _ h => h) (Or.inl ⟨by rfl, ?_⟩) (by assumption) ?_
            rotate_left
            · intro w hSw; (try dsimp only at hSw); go_simp
              first | done | with_reducible rfl
            try simp only [Act.put, List.setIfInBounds_toArray, List.set_cons_zero, List.set_cons_succ]
            refine wpAnyN_take (i := 12) (oi := _) (v := ?_) rfl (by kernel_rfl) (by kernel_rfl) (by kernel_rfl) (by kernel_rfl) (fun _ _ _ h => h) (Or.inl ⟨by rfl, ?_⟩) (by assumption) ?_
            rotate_left
            · intro w hSw; (try dsimp only at hSw); go_simp
              first | done | with_reducible rfl
            try simp only [Act.put, List.setIfInBounds_toArray, List.set_cons_zero, List.set_cons_succ]
            refine wpAnyN_take (i := 13) (oi := _) (v := ?_) rfl (by kernel_rfl) (by kernel_rfl) (by kernel_rfl) (by kernel_rfl) (fun _ _ _ h => h) (Or.inl ⟨by rfl, ?_⟩) (by assumption) ?_
            rotate_left
            · intro w hSw; (try dsimp only at hSw); go_simp
              first | done | with_reducible rfl
            try simp only [Act.put, List.setIfInBounds_toArray, List.set_cons_zero, List.set_cons_succ]
            refine wpAnyN_ready (rs := [14, 18]) (by kernel_rfl) (by simp) ?_
            refine AllReadyN.held rfl (by rfl) (fun K hK => ?_) ?_
            · go_simp
              (with_reducible refine (qdiv_calls _ _ _ x p kk kk (RawR.later HX.out (Later.refl wi.drew)) (RawR.later HP.out (Later.refl wi.drew)) (by omega)).mono ?_)
              rintro e w1 ⟨v1, ok1, rfl, ⟨o1, rfl⟩, b1⟩
              have kA : Later wi.drew w1 := Later.trans (Later.refl wi.drew) b1
              obtain ⟨s1, P1, q1, e1, P1', q1', e1', rfl, o1⟩ := o1.open_; have O1 := hide o1; clear o1
              refine hK.out _ _ ?_ (fun hHeld => ?_)
              · (first | exact HS11.out _ (Later.refl _) | exact HS11.out _ kZ | exact HS11.out _ kA | exact HS11.out _ (kA.alloc _) | exact HS11.out _ (Later.four kA (Nat.le_refl _) _ _ _ _) | exact HS11.out _ (Later.four (kA.alloc _) (by first | exact kA.size_le | (simp; exact kA.size_le)) _ _ _ _))
              clear hK K
              try simp only [Act.put, List.setIfInBounds_toArray, List.set_cons_zero, List.set_cons_succ]
              refine wpAnyN_take (i := 15) (oi := _) (v := ?_) rfl (by kernel_rfl) (by kernel_rfl) (by kernel_rfl) (by kernel_rfl) (fun _ _ _ h => h) (Or.inl ⟨by rfl, ?_⟩) (by assumption) ?_
              rotate_left
              · intro w hSw; (try dsimp only at hSw); go_simp
                first | done | with_reducible rfl
              try simp only [Act.put, List.setIfInBounds_toArray, List.set_cons_zero, List.set_cons_succ]
              refine wpAnyN_take (i := 16) (oi := _) (v := ?_) rfl (by kernel_rfl) (by kernel_rfl) (by kernel_rfl) (by kernel_rfl) (fun _ _ _ h => h) (Or.inl ⟨by rfl, ?_⟩) (by assumption) ?_
              rotate_left
              · intro w hSw; (try dsimp only at hSw); go_simp
                first | done | with_reducible rfl
              try simp only [Act.put, List.setIfInBounds_toArray, List.set_cons_zero, List.set_cons_succ]
              refine wpAnyN_take (i := 17) (oi := _) (v := ?_) rfl (by kernel_rfl) (by kernel_rfl) (by kernel_rfl) (by kernel_rfl) (fun _ _ _ h => h) (Or.inl ⟨by rfl, ?_⟩) (by assumption) ?_
              rotate_left
              · intro w hSw; (try dsimp only at hSw); go_simp
                first | done | with_reducible rfl
              try simp only [Act.put, List.setIfInBounds_toArray, List.set_cons_zero, List.set_cons_succ]
              refine wpAnyN_ready (rs := [18]) (by kernel_rfl) (by simp) ?_
              refine AllReadyN.held rfl (by rfl) (fun K hK => ?_) AllReadyN.nil
              go_simp
              refine hK.out _ _ ?_ (fun hHeld => ?_)
              · (first | exact HS11.out _ (Later.refl _) | exact HS11.out _ kZ | exact HS11.out _ kA | exact HS11.out _ (kA.alloc _) | exact HS11.out _ (Later.four kA (Nat.le_refl _) _ _ _ _) | exact HS11.out _ (Later.four (kA.alloc _) (by first | exact kA.size_le | (simp; exact kA.size_le)) _ _ _ _))
              clear hK K
              try simp only [Act.put, List.setIfInBounds_toArray, List.set_cons_zero, List.set_cons_succ]
              refine wpAnyN_ready (rs := [19]) (by kernel_rfl) (by simp) ?_
              refine AllReadyN.held rfl (by rfl) (fun K hK => ?_) AllReadyN.nil
              go_simp
              refine hK.out _ _ ?_ (fun hHeld => ?_)
              · (first | exact HS11.out _ (Later.refl _) | exact HS11.out _ kZ | exact HS11.out _ kA | exact HS11.out _ (kA.alloc _) | exact HS11.out _ (Later.four kA (Nat.le_refl _) _ _ _ _) | exact HS11.out _ (Later.four (kA.alloc _) (by first | exact kA.size_le | (simp; exact kA.size_le)) _ _ _ _))
              clear hK K
              try simp only [Act.put, List.setIfInBounds_toArray, List.set_cons_zero, List.set_cons_succ]
              refine wpAnyN_take (i := 20) (oi := _) (v := ?_) rfl (by kernel_rfl) (by kernel_rfl) (by kernel_rfl) (by kernel_rfl) (fun _ _ _ h => h) (Or.inl ⟨by rfl, ?_⟩) (by assumption) ?_
              rotate_left
              · intro w hSw; (try dsimp only at hSw); go_simp
                first | done | with_reducible rfl
              try simp only [Act.put, List.setIfInBounds_toArray, List.set_cons_zero, List.set_cons_succ]
              refine wpAnyN_done (by kernel_rfl) ?_ _
              go_wp2_with fail
              go_meet
              exact ⟨_, _, _, _, _, _, _, _, rfl, Row.new w1 _ _, OwnR.later O1.out ((Later.refl _).alloc _), kA.size_le, ((Later.refl wi).drew.trans kA).alloc _⟩
            refine AllReadyN.held rfl (by rfl) (fun K hK => ?_) AllReadyN.nil
            go_simp
            refine hK.out _ _ ?_ (fun hHeld => ?_)
            · (first | exact HS11.out _ (Later.refl _) | exact HS11.out _ kZ | exact HS11.out _ kA | exact HS11.out _ (kA.alloc _) | exact HS11.out _ (Later.four kA (Nat.le_refl _) _ _ _ _) | exact HS11.out _ (Later.four (kA.alloc _) (by first | exact kA.size_le | (simp; exact kA.size_le)) _ _ _ _))
            clear hK K
            try simp only [Act.put, List.setIfInBounds_toArray, List.set_cons_zero, List.set_cons_succ]
            refine wpAnyN_ready (rs := [14]) (by kernel_rfl) (by simp) ?_
            refine AllReadyN.held rfl (by rfl) (fun K hK => ?_) AllReadyN.nil
            go_simp
            (with_reducible refine (qdiv_calls _ _ _ x p kk kk (RawR.later HX.out kZ) (RawR.later HP.out kZ) (by omega)).mono ?_)
            rintro e w1 ⟨v1, ok1, rfl, ⟨o1, rfl⟩, b1⟩
            have kA : Later wi.drew w1 := Later.trans kZ b1
            obtain ⟨s1, P1, q1, e1, P1', q1', e1', rfl, o1⟩ := o1.open_; have O1 := hide o1; clear o1
            obtain ⟨i1, i2, i3, i4, i5, i6, i7, i8⟩ := row_cells4 (rZ.later b1)
            refine hK.out _ _ ?_ (fun hHeld => ?_)
            · (first | exact HS11.out _ (Later.refl _) | exact HS11.out _ kZ | exact HS11.out _ kA | exact HS11.out _ (kA.alloc _) | exact HS11.out _ (Later.four kA (Nat.le_refl _) _ _ _ _) | exact HS11.out _ (Later.four (kA.alloc _) (by first | exact kA.size_le | (simp; exact kA.size_le)) _ _ _ _))
            clear hK K
            try simp only [Act.put, List.setIfInBounds_toArray, List.set_cons_zero, List.set_cons_succ]
            refine wpAnyN_take (i := 15) (oi := _) (v := ?_) rfl (by kernel_rfl) (by kernel_rfl) (by kernel_rfl) (by kernel_rfl) (fun _ _ _ h => h) (Or.inl ⟨by rfl, ?_⟩) (by assumption) ?_
            rotate_left
            · intro w hSw; (try dsimp only at hSw); go_simp
              first | done | with_reducible rfl
            try simp only [Act.put, List.setIfInBounds_toArray, List.set_cons_zero, List.set_cons_succ]
            refine wpAnyN_take (i := 16) (oi := _) (v := ?_) rfl (by kernel_rfl) (by kernel_rfl) (by kernel_rfl) (by kernel_rfl) (fun _ _ _ h => h) (Or.inl ⟨by rfl, ?_⟩) (by assumption) ?_
            rotate_left
            · intro w hSw; (try dsimp only at hSw); go_simp
              first | done | with_reducible rfl
            try simp only [Act.put, List.setIfInBounds_toArray, List.set_cons_zero, List.set_cons_succ]
            refine wpAnyN_take (i := 17) (oi := _) (v := ?_) rfl (by kernel_rfl) (by kernel_rfl) (by kernel_rfl) (by kernel_rfl) (fun _ _ _ h => h) (Or.inl ⟨by rfl, ?_⟩) (by assumption) ?_
            rotate_left
            · intro w hSw; (try dsimp only at hSw); go_simp
              first | done | with_reducible rfl
            try simp only [Act.put, List.setIfInBounds_toArray, List.set_cons_zero, List.set_cons_succ]
            refine wpAnyN_ready (rs := [19]) (by kernel_rfl) (by simp) ?_
            refine AllReadyN.held rfl (by rfl) (fun K hK => ?_) AllReadyN.nil
            go_simp
            refine hK.out _ _ ?_ (fun hHeld => ?_)
            · (first | exact HS11.out _ (Later.refl _) | exact HS11.out _ kZ | exact HS11.out _ kA | exact HS11.out _ (kA.alloc _) | exact HS11.out _ (Later.four kA (Nat.le_refl _) _ _ _ _) | exact HS11.out _ (Later.four (kA.alloc _) (by first | exact kA.size_le | (simp; exact kA.size_le)) _ _ _ _))
            clear hK K
            try simp only [Act.put, List.setIfInBounds_toArray, List.set_cons_zero, List.set_cons_succ]
            refine wpAnyN_take (i := 20) (oi := _) (v := ?_) rfl (by kernel_rfl) (by kernel_rfl) (by kernel_rfl) (by kernel_rfl) (fun _ _ _ h => h) (Or.inl ⟨by rfl, ?_⟩) (by assumption) ?_
            rotate_left
            · intro w hSw; (try dsimp only at hSw); go_simp
              first | done | with_reducible rfl
            try simp only [Act.put, List.setIfInBounds_toArray, List.set_cons_zero, List.set_cons_succ]
            refine wpAnyN_done (by kernel_rfl) ?_ _
            go_wp2_with fail
            go_meet
            exact ⟨_, _, _, _, _, _, _, _, rfl, (rZ.later b1).four _ _ _ _, OwnR.weaken (O1.out.only (Only.four wi.heap.size w1 _ _ _ _) (by show wi.heap.size < (wi.alloc _).heap.size; rw [World.size_alloc]; omega)) (by show wi.heap.size ≤ (wi.alloc _).heap.size; rw [World.size_alloc]; omega), Nat.le_refl _, ((Later.refl wi).drew.trans kA).four (Nat.le_refl _) _ _ _ _⟩

          case rest =>
            obtain ⟨g, s1, P1, q1, e1, P1', q1', e1', rfl, hrow1, ho1, hg1, hl1⟩ := hcut
            have HR1 := hide hrow1; have HO1 := hide ho1; have HLC := hide hl1
            have HGL := hide (show g < wc.heap.size from hrow1.lt)
            have hwc2 := hl1.size_le
            have HSX : Hid (Sized (x / p) (2 * kk + 3)) := hide ((HX.out.sized.div HP.out.sized).mono (by omega))
            have HSZ : Hid (Sized (z * (x / p)) (3 * kk + 4)) := hide ((HZ.out.sized.mul HSX.out).mono (by omega))
            by_cases e : i = r
            · have t5 : ((i : Int) != (r : Int)) = false := by simp; omega
              rw [if_pos e] at HTK
              clear hrow1 ho1 hl1 e
              obtain ⟨d1, d2, d3, d4, d5, d6, d7, d8⟩ := row_cells4 HR1.out
              have hsw := HLC.out.size_le
              have HOUT2 : Hid (∀ o, OutRats EOwn (wc.alloc o) (fun b => wo.heap.size ≤ b) wo.heap.size u10 ((pivRow t r c i).take k)) := hide fun o => HROW.out.later (HLC.out.alloc _)
              have HEL : Hid (∀ o, On (wc.alloc o) (fun b => wo.heap.size ≤ b ∧ some b ≠ u10.ownBlock) (fun W => EOwn W (.agg #[.bool s1, .slice P1 q1 e1, .bool false, .slice P1' q1' e1']) (x / p))) := hide fun o =>
                (On.made (On.ownR HO1.out) (by omega) (fun k hk => by have := (hblt2 k hk).2; omega)).later ((Later.refl _).alloc _)
              have hln : ((pivRow t r c i).take k).length ≤ 3000000000 := by rw [List.length_take]; omega
              have HROWX : Hid (Row (wc.alloc (Obj.cells #[Value.bool s1, Value.slice P1 q1 e1, Value.bool false, Value.slice P1' q1' e1'] 32)) wc.heap.size 32 [.bool s1, .slice P1 q1 e1, .bool false, .slice P1' q1' e1']) := hide (Row.new wc _ _)
              have HBASE : Hid (∀ o, wo.heap.size ≤ (wc.alloc o).heap.size) := hide fun o => by rw [World.size_alloc]; omega
              go_wp2_with (at_builtin; refine wpList_append_rat rfl _ _ rfl rfl (HOUT2.out _) rfl HROWX.out (HEL.out _) hln (HBASE.out _) ?_; intro v20 w20 hout20 hg20)
              have HO20 : Hid (OutRats EOwn w20 (fun b => wo.heap.size ≤ b) wo.heap.size v20 ((pivRow t r c i).take (k+1))) := hide (by rw [HTK.out]; exact hout20)
              have hL20 : Later wo w20 := ((HI.out.trans HLC.out).alloc _).grown hg20 fun k hk => (hblt2 k hk).1
              clear hout20 hg20
              go_wp2_with fail
              exact ⟨⟨k+1, by omega, by go_num, HO20.out, hL20⟩, by simp [intOf]; omega⟩
            · have t5 : ((i : Int) != (r : Int)) = true := by rw [bne_iff_ne]; omega
              rw [if_neg e] at HTK
              have HDW : Hid (Later wc wc.drew) := hide (Later.refl wc).drew
              have hlwc := HLW.out.trans (hl1.trans HDW.out)
              have HZ13 : Hid (RawR wc.drew (.agg #[.bool x4s, .slice A4 n4 c4, .bool x4s', .slice A4' n4' c4']) z kk) := hide (HZ.out.later hlwc)
              have HY13 : Hid (RawR wc.drew (.agg #[.bool x3s, .slice A3 n3 c3, .bool x3s', .slice A3' n3' c3']) y kk) := hide (HY.out.later hlwc)
              have HO13 : Hid (OwnR wc.drew wi.heap.size (.agg #[.bool s1, .slice P1 q1 e1, .bool false, .slice P1' q1' e1']) (x / p)) := hide (ho1.later HDW.out)
              have HR13 := hide (hrow1.later HDW.out)
              have HS13 : Hid (∀ w', Later wc.drew w' → w'.cell? ⟨bt, ot + i, none⟩ = some (.slice (some ⟨bi, ofi, none⟩) rn sc) ∧ w'.cell? ⟨bi, ofi + k * 4, none⟩ = some (.bool x3s) ∧ w'.cell? ⟨bi, ofi + k * 4 + 1, none⟩ = some (.slice A3 n3 c3) ∧ w'.cell? ⟨bi, ofi + k * 4 + 2, none⟩ = some (.bool x3s') ∧ w'.cell? ⟨bi, ofi + k * 4 + 3, none⟩ = some (.slice A3' n3' c3') ∧ w'.cell? ⟨bi, ofi + c * 4, none⟩ = some (.bool x4s) ∧ w'.cell? ⟨bi, ofi + c * 4 + 1, none⟩ = some (.slice A4 n4 c4) ∧ w'.cell? ⟨bi, ofi + c * 4 + 2, none⟩ = some (.bool x4s') ∧ w'.cell? ⟨bi, ofi + c * 4 + 3, none⟩ = some (.slice A4' n4' c4') ∧ w'.cell? ⟨g, 0, none⟩ = some (.bool s1) ∧ w'.cell? ⟨g, 1, none⟩ = some (.slice P1 q1 e1) ∧ w'.cell? ⟨g, 2, none⟩ = some (.bool false) ∧ w'.cell? ⟨g, 3, none⟩ = some (.slice P1' q1' e1')) := hide fun w' hb => by
                have hl := hlwc.trans hb
                have hrr := HR13.out.later hb
                obtain ⟨a1, a2, a3, a4, a5, a6, a7, a8⟩ := HYC.out _ hl
                exact ⟨HZ1.out _ hl, a1, a2, a3, a4, a5, a6, a7, a8, hrr.cell rfl, hrr.cell rfl, hrr.cell rfl, hrr.cell rfl⟩
              clear hrow1 ho1 hl1 e hlwc
              go_upto_region 13 with fail
              refine wp_region_N (fun w' => w'.cell? ⟨bt, ot + i, none⟩ = some (.slice (some ⟨bi, ofi, none⟩) rn sc) ∧ w'.cell? ⟨bi, ofi + k * 4, none⟩ = some (.bool x3s) ∧ w'.cell? ⟨bi, ofi + k * 4 + 1, none⟩ = some (.slice A3 n3 c3) ∧ w'.cell? ⟨bi, ofi + k * 4 + 2, none⟩ = some (.bool x3s') ∧ w'.cell? ⟨bi, ofi + k * 4 + 3, none⟩ = some (.slice A3' n3' c3') ∧ w'.cell? ⟨bi, ofi + c * 4, none⟩ = some (.bool x4s) ∧ w'.cell? ⟨bi, ofi + c * 4 + 1, none⟩ = some (.slice A4 n4 c4) ∧ w'.cell? ⟨bi, ofi + c * 4 + 2, none⟩ = some (.bool x4s') ∧ w'.cell? ⟨bi, ofi + c * 4 + 3, none⟩ = some (.slice A4' n4' c4') ∧ w'.cell? ⟨g, 0, none⟩ = some (.bool s1) ∧ w'.cell? ⟨g, 1, none⟩ = some (.slice P1 q1 e1) ∧ w'.cell? ⟨g, 2, none⟩ = some (.bool false) ∧ w'.cell? ⟨g, 3, none⟩ = some (.slice P1' q1' e1')) [17] hmx (HS13.out _ (Later.refl _)) (fun hHeld => ?_)
              refine wpAnyN_take (i := 0) (oi := _) (v := ?_) rfl (by kernel_rfl) (by kernel_rfl) (by kernel_rfl) (by kernel_rfl) (fun _ _ _ h => h) (Or.inl ⟨by rfl, ?_⟩) (by assumption) ?_
              rotate_left
              · intro w hSw; (try dsimp only at hSw); go_simp
                first | done | with_reducible rfl
              try simp only [Act.put, List.setIfInBounds_toArray, List.set_cons_zero, List.set_cons_succ]
              refine wpAnyN_take (i := 1) (oi := _) (v := ?_) rfl (by kernel_rfl) (by kernel_rfl) (by kernel_rfl) (by kernel_rfl) (fun _ _ _ h => h) (Or.inl ⟨by rfl, ?_⟩) (by assumption) ?_
              rotate_left
              · intro w hSw; (try dsimp only at hSw); go_simp
                first | done | with_reducible rfl
              try simp only [Act.put, List.setIfInBounds_toArray, List.set_cons_zero, List.set_cons_succ]
              refine wpAnyN_take (i := 2) (oi := _) (v := ?_) rfl (by kernel_rfl) (by kernel_rfl) (by kernel_rfl) (by kernel_rfl) (fun _ _ _ h => h) (Or.inl ⟨by rfl, ?_⟩) (by assumption) ?_
              rotate_left
              · intro w hSw; (try dsimp only at hSw); go_simp
                first | done | with_reducible rfl
              try simp only [Act.put, List.setIfInBounds_toArray, List.set_cons_zero, List.set_cons_succ]
              refine wpAnyN_take (i := 3) (oi := _) (v := ?_) rfl (by kernel_rfl) (by kernel_rfl) (by kernel_rfl) (by kernel_rfl) (fun _ _ _ h => h) (Or.inl ⟨by rfl, ?_⟩) (by assumption) ?_
              rotate_left
              · intro w hSw; (try dsimp only at hSw); go_simp
                first | done | with_reducible rfl
              try simp only [Act.put, List.setIfInBounds_toArray, List.set_cons_zero, List.set_cons_succ]
              refine wpAnyN_take (i := 4) (oi := _) (v := ?_) rfl (by kernel_rfl) (by kernel_rfl) (by kernel_rfl) (by kernel_rfl) (fun _ _ _ h => h) (Or.inl ⟨by rfl, ?_⟩) (by assumption) ?_
              rotate_left
              · intro w hSw; (try dsimp only at hSw); go_simp
                first | done | with_reducible rfl
              try simp only [Act.put, List.setIfInBounds_toArray, List.set_cons_zero, List.set_cons_succ]
              refine wpAnyN_take (i := 5) (oi := _) (v := ?_) rfl (by kernel_rfl) (by kernel_rfl) (by kernel_rfl) (by kernel_rfl) (fun _ _ _ h => h) (Or.inl ⟨by rfl, ?_⟩) (by assumption) ?_
              rotate_left
              · intro w hSw; (try dsimp only at hSw); go_simp
                first | done | with_reducible rfl
              try simp only [Act.put, List.setIfInBounds_toArray, List.set_cons_zero, List.set_cons_succ]
              refine wpAnyN_take (i := 6) (oi := _) (v := ?_) rfl (by kernel_rfl) (by kernel_rfl) (by kernel_rfl) (by kernel_rfl) (fun _ _ _ h => h) (Or.inl ⟨by rfl, ?_⟩) (by assumption) ?_
              rotate_left
              · intro w hSw; (try dsimp only at hSw); go_simp
                first | done | with_reducible rfl
              try simp only [Act.put, List.setIfInBounds_toArray, List.set_cons_zero, List.set_cons_succ]
              refine wpAnyN_take (i := 7) (oi := _) (v := ?_) rfl (by kernel_rfl) (by kernel_rfl) (by kernel_rfl) (by kernel_rfl) (fun _ _ _ h => h) (Or.inl ⟨by rfl, ?_⟩) (by assumption) ?_
              rotate_left
              · intro w hSw; (try dsimp only at hSw); go_simp
                first | done | with_reducible rfl
              try simp only [Act.put, List.setIfInBounds_toArray, List.set_cons_zero, List.set_cons_succ]
              refine wpAnyN_take (i := 8) (oi := _) (v := ?_) rfl (by kernel_rfl) (by kernel_rfl) (by kernel_rfl) (by kernel_rfl) (fun _ _ _ h => h) (Or.inl ⟨by rfl, ?_⟩) (by assumption) ?_
              rotate_left
              · intro w hSw; (try dsimp only at hSw); go_simp
                first | done | with_reducible rfl
              try simp only [Act.put, List.setIfInBounds_toArray, List.set_cons_zero, List.set_cons_succ]
              refine wpAnyN_take (i := 9) (oi := _) (v := ?_) rfl (by kernel_rfl) (by kernel_rfl) (by kernel_rfl) (by kernel_rfl) (fun _ _ _ h => h) (Or.inl ⟨by rfl, ?_⟩) (by assumption) ?_
              rotate_left
              · intro w hSw; (try dsimp only at hSw); go_simp
                first | done | with_reducible rfl
              try simp only [Act.put, List.setIfInBounds_toArray, List.set_cons_zero, List.set_cons_succ]
              refine wpAnyN_take (i := 10) (oi := _) (v := ?_) rfl (by kernel_rfl) (by kernel_rfl) (by kernel_rfl) (by kernel_rfl) (fun _ _ _ h => h) (Or.inl ⟨by rfl, ?_⟩) (by assumption) ?_
              rotate_left
              · intro w hSw; (try dsimp only at hSw); go_simp
                first | done | with_reducible rfl
              try simp only [Act.put, List.setIfInBounds_toArray, List.set_cons_zero, List.set_cons_succ]
              refine wpAnyN_take (i := 11) (oi := _) (v := ?_) rfl (by kernel_rfl) (by kernel_rfl) (by kernel_rfl) (by kernel_rfl) (fun _ _ _ h => h) (Or.inl ⟨by rfl, ?_⟩) (by assumption) ?_
              rotate_left
              · intro w hSw; (try dsimp only at hSw); go_simp
                first | done | with_reducible rfl
              try simp only [Act.put, List.setIfInBounds_toArray, List.set_cons_zero, List.set_cons_succ]
              refine wpAnyN_take (i := 12) (oi := _) (v := ?_) rfl (by kernel_rfl) (by kernel_rfl) (by kernel_rfl) (by kernel_rfl) (fun _ _ _ h => h) (Or.inl ⟨by rfl, ?_⟩) (by assumption) ?_
              rotate_left
              · intro w hSw; (try dsimp only at hSw); go_simp
                first | done | with_reducible rfl
              try simp only [Act.put, List.setIfInBounds_toArray, List.set_cons_zero, List.set_cons_succ]
              refine wpAnyN_take (i := 13) (oi := _) (v := ?_) rfl (by kernel_rfl) (by kernel_rfl) (by kernel_rfl) (by kernel_rfl) (fun _ _ _ h => h) (Or.inl ⟨by rfl, ?_⟩) (by assumption) ?_
              rotate_left
              · intro w hSw; (try dsimp only at hSw); go_simp
                first | done | with_reducible rfl
              try simp only [Act.put, List.setIfInBounds_toArray, List.set_cons_zero, List.set_cons_succ]
              refine wpAnyN_take (i := 14) (oi := _) (v := ?_) rfl (by kernel_rfl) (by kernel_rfl) (by kernel_rfl) (by kernel_rfl) (fun _ _ _ h => h) (Or.inl ⟨by rfl, ?_⟩) (by assumption) ?_
              rotate_left
              · intro w hSw; (try dsimp only at hSw); go_simp
                first | done | with_reducible rfl
              try simp only [Act.put, List.setIfInBounds_toArray, List.set_cons_zero, List.set_cons_succ]
              refine wpAnyN_ready (rs := [15]) (by kernel_rfl) (by simp) ?_
              refine AllReadyN.held rfl (by rfl) (fun K hK => ?_) AllReadyN.nil
              go_simp
              (with_reducible refine (qmul_calls _ _ _ z (x / p) kk (2 * kk + 3) HZ13.out (OwnR.raw HO13.out HSX.out) (by omega)).mono ?_)
              rintro e w15 ⟨v15, rfl, o15, b15⟩
              obtain ⟨s15, P15, q15, e15, P15', q15', e15', rfl, o15⟩ := o15.open_; have O15 := hide o15; clear o15
              refine hK.out _ _ ?_ (fun hHeld => ?_)
              · (first | exact HS13.out _ b15 | exact HS13.out _ (b15.trans b16))
              clear hK K
              try simp only [Act.put, List.setIfInBounds_toArray, List.set_cons_zero, List.set_cons_succ]
              refine wpAnyN_ready (rs := [16]) (by kernel_rfl) (by simp) ?_
              refine AllReadyN.held rfl (by rfl) (fun K hK => ?_) AllReadyN.nil
              go_simp
              (with_reducible refine (qsub_calls _ _ _ y (z * (x / p)) kk (3 * kk + 4) (HY13.out.later b15) (OwnR.raw O15.out HSZ.out) (by omega)).mono ?_)
              rintro e w16 ⟨v16, rfl, o16, b16⟩
              obtain ⟨s16, P16, q16, e16, P16', q16', e16', rfl, o16⟩ := o16.open_; have O16 := hide o16; clear o16
              have hr16 := HR13.out.later (b15.trans b16)
              obtain ⟨d1, d2, d3, d4, d5, d6, d7, d8⟩ := row_cells4 hr16
              have HR16 := hide hr16
              refine hK.out _ _ ?_ (fun hHeld => ?_)
              · (first | exact HS13.out _ b15 | exact HS13.out _ (b15.trans b16))
              clear hK K
              try simp only [Act.put, List.setIfInBounds_toArray, List.set_cons_zero, List.set_cons_succ]
              refine wpAnyN_ready (rs := [17]) (by kernel_rfl) (by simp) ?_
              refine AllReadyN.free rfl (by rfl) (by kernel_rfl) (fun K hK => ?_) AllReadyN.nil
              go_simp
              refine hK.out _ _ ?_
              clear hK K
              try simp only [Act.put, List.setIfInBounds_toArray, List.set_cons_zero, List.set_cons_succ]
              refine wpAnyN_done (by kernel_rfl) ?_ _
              obtain ⟨wd, hwd⟩ : ∃ wd, wd = ((((w16.setCell ⟨g, 0, none⟩ (.bool s16)).setCell ⟨g, 1, none⟩ (.slice P16 q16 e16)).setCell ⟨g, 2, none⟩ (.bool false)).setCell ⟨g, 3, none⟩ (.slice P16' q16' e16')) := ⟨_, rfl⟩
              have HRD : Hid (Row wd g 32 [.bool s16, .slice P16 q16 e16, .bool false, .slice P16' q16' e16']) := hide (by rw [hwd]; exact HR16.out.four _ _ _ _)
              have HLD : Hid (Later wi wd) := hide (by rw [hwd]; exact ((HLC.out.trans HDW.out).trans (b15.trans b16)).four hg1 _ _ _ _)
              have HOD : Hid (OwnR wd wi.heap.size (.agg #[.bool s16, .slice P16 q16 e16, .bool false, .slice P16' q16' e16']) (y - z * (x / p))) := hide (by
                rw [hwd]
                have hb : wc.heap.size ≤ w15.heap.size := b15.size_le
                exact OwnR.weaken (O16.out.only (Only.four g w16 _ _ _ _) (Nat.lt_of_lt_of_le HGL.out hb)) (by omega))
              rw [← hwd]
              clear hwd d1 d2 d3 d4 d5 d6 d7 d8 HR16 O16 O15 b15 b16 hHeld
              obtain ⟨d1, d2, d3, d4, d5, d6, d7, d8⟩ := row_cells4 HRD.out
              have hsw := HLD.out.size_le
              have HOUT2 : Hid (∀ o, OutRats EOwn (wd.alloc o) (fun b => wo.heap.size ≤ b) wo.heap.size u10 ((pivRow t r c i).take k)) := hide fun o => HROW.out.later (HLD.out.alloc _)
              have HEL : Hid (∀ o, On (wd.alloc o) (fun b => wo.heap.size ≤ b ∧ some b ≠ u10.ownBlock) (fun W => EOwn W (.agg #[.bool s16, .slice P16 q16 e16, .bool false, .slice P16' q16' e16']) (y - z * (x / p)))) := hide fun o =>
                (On.made (On.ownR HOD.out) (by omega) (fun k hk => by have := (hblt2 k hk).2; omega)).later ((Later.refl _).alloc _)
              have hln : ((pivRow t r c i).take k).length ≤ 3000000000 := by rw [List.length_take]; omega
              have HROWX : Hid (Row (wd.alloc (Obj.cells #[Value.bool s16, Value.slice P16 q16 e16, Value.bool false, Value.slice P16' q16' e16'] 32)) wd.heap.size 32 [.bool s16, .slice P16 q16 e16, .bool false, .slice P16' q16' e16']) := hide (Row.new wd _ _)
              have HBASE : Hid (∀ o, wo.heap.size ≤ (wd.alloc o).heap.size) := hide fun o => by rw [World.size_alloc]; omega
              go_wp2_with (at_builtin; refine wpList_append_rat rfl _ _ rfl rfl (HOUT2.out _) rfl HROWX.out (HEL.out _) hln (HBASE.out _) ?_; intro v20 w20 hout20 hg20)
              have HO20 : Hid (OutRats EOwn w20 (fun b => wo.heap.size ≤ b) wo.heap.size v20 ((pivRow t r c i).take (k+1))) := hide (by rw [HTK.out]; exact hout20)
              have hL20 : Later wo w20 := ((HI.out.trans HLD.out).alloc _).grown hg20 fun k hk => (hblt2 k hk).1
              clear hout20 hg20
              go_wp2_with fail
              exact ⟨⟨k+1, by omega, by go_num, HO20.out, hL20⟩, by simp [intOf]; omega⟩

        · obtain rfl : rn = k := by omega
          rw [List.take_of_length_le (by rw [HPRL.out]; exact Nat.le_refl _)] at hr
          obtain ⟨R0, rn0, rc0, hrv, -⟩ := hr.rats.now.form
          subst hrv
          have HROW := hide hr
          have hwi := hi.size_le
          have HOUT2 : Hid (∀ o, OutTab EOwn (wr.alloc o) (fun b => w.heap.size ≤ b) w.heap.size u8 (pivTo t r c i)) := hide fun o => HOUT.out.later (hi.alloc _)
          have HEL : Hid (∀ o, On (wr.alloc o) (fun b => w.heap.size ≤ b ∧ some b ≠ u8.ownBlock) (fun W => Rats EOwn W (.slice R0 rn0 rc0) (pivRow t r c i))) := hide fun o =>
            (hr.rats.mono (P' := fun b => w.heap.size ≤ b ∧ some b ≠ u8.ownBlock) (fun b hb _ => by
              have hb2 : wo.heap.size ≤ b := by rcases hb with h | h <;> exact h
              exact ⟨by omega, fun e => by have := (hblt b e.symm).2; omega⟩)).later ((Later.refl _).alloc _)
          have HROWX : Hid (Row (wr.alloc (Obj.cells #[Value.slice R0 rn0 rc0] 35)) wr.heap.size 35 [.slice R0 rn0 rc0]) := hide (Row.new wr _ _)
          have hln : (pivTo t r c i).length ≤ 3000000000 := by rw [pivTo_len]; omega
          have HBASE : Hid (∀ o, w.heap.size ≤ (wr.alloc o).heap.size) := hide fun o => by rw [World.size_alloc]; omega
          have HLW := hide hlw
          clear hr hi hlw
          go_wp2_with (at_builtin; refine wpList_append_row rfl _ _ rfl rfl (HOUT2.out _) rfl HROWX.out (HEL.out _) hln (HBASE.out _) ?_; intro v9 w9 hout9 hg9)
          have HO9 : Hid (OutTab EOwn w9 (fun b => w.heap.size ≤ b) w.heap.size v9 (pivTo t r c (i+1))) := hide (by rw [pivTo_succ]; exact hout9)
          have hL9 : Later w w9 := (HLW.out.alloc _).grown hg9 fun k hk => (hblt k hk).1
          clear hout9 hg9
          go_wp2_with fail
          exact ⟨⟨i+1, by omega, by go_num, HO9.out, hL9⟩, by simp [intOf]; omega⟩
    · obtain rfl : nt = i := by omega
      have HO : Hid (OutTab EOwn wr (fun b => w.heap.size ≤ b) w.heap.size u8 (pivL t r c)) := hide (by rw [pivL_eq, ← HNT.out]; exact hout)
      clear hout
      go_wp2_with fail
      go_ret2
      exact ⟨_, _, rfl, ⟨HO.out, rfl⟩, hL⟩
end Go.Proofs.YtkendajmnmchoaaGreat
