/- BookFrozen: the walk. -/
import Derived.Test.YtncbebfhakcgdaaGreatS28
import Derived.Test.YtncbebfhakcgdaaGreatS7
set_option linter.unusedVariables false
set_option linter.unusedSimpArgs false
set_option maxRecDepth 100000
namespace Go.Proofs.YtncbebfhakcgdaaGreat
open Go.RowKit Go.Shelf
attribute [local go_sem ↓] Go.wp_at_zero Go.wp_at_succ
set_option maxHeartbeats 2000000 in
theorem bookfrozen_walk (w : World) (v : Value) (z : Int) (h0 : ArgOps w v) (wz : (Lit.int .u8 z).wf = true) :
 Calls Tryz.prog 7 #[v, .int .u8 z] w (RetV w (.bool true)) := by
 have hz : 0 <= z /\ z <= 255 := by simpa [Lit.wf, IntKind.min, IntKind.max, IntKind.bits, IntKind.signed] using wz
 clear wz
 obtain ⟨As, n, cs, l, rfl, hops, hfits⟩ := h0
 have HOP := hide hops; have HFT := hide hfits
 have hnl : n = l.length := by
  obtain ⟨_, _, _, e, e2, -⟩ := hops.form
  injection e with _ e3 _; omega
 have HNL := hide hnl
 obtain ⟨q, hq⟩ : ∃ q, q = z % 101 := ⟨_, rfl⟩
 have hqr : 0 <= q /\ q <= 100 := by omega
 have hw1 : IntKind.i64.wrap z = z := IntWalk.i64_in _ (by omega)
 have hw2 : z.tmod 101 = q := by rw [Int.tmod_eq_emod_of_nonneg hz.1, hq]
 have hw3 : z % 101 = q := hq.symm
 obtain ⟨D1, hD1⟩ : ∃ D, D = newD (itemsN 0) 2 := ⟨_, rfl⟩
 have hmay1 : MayP D1 := by rw [hD1]; exact itm_may 1 (by omega) (by omega)
 obtain ⟨D2, D3, e2, e3, hfro⟩ := fro_start (D := D1) (q := q) hmay1 (by rw [hD1]; rfl) (by rw [hD1]; rfl) (by rw [hD1]; rfl) hqr
 have HE2 := hide e2; have HE3 := hide e3; have HF3 := hide hfro
 have HN1 : Hid (∀ W A n c, Its 12 W (.slice A n c) (itemsN 0) -> Calls Tryz.prog 14 #[.slice A n c, .int .i64 2] W (CauP W (.ok D1))) := hide (fun W A n c hI => by
  have h2 := new_calls W A n c (itemsN 0) 2 hI (by rw [items0]; simp) (by unfold IFit; omega)
  rw [new_items, <- hD1] at h2; exact h2)
 clear hops hfits hnl hq hqr hD1 hmay1 e2 e3 hfro
 go_enter Tryz.func7, Tryz.ntmps7
 go_upto_region 4 with (first | (go_at_call 9; (with_reducible refine (awake20_calls _).mono ?_); rintro e a0 ⟨rfl, b0⟩) | (go_at_call 24; (with_reducible refine (items20_calls _ 0 (by omega)).mono ?_); rintro e ai ⟨Ai, ni, ci, rfl, hi, bi⟩) | (go_at_call 14; (refine (HN1.out _ _ _ _ hi).mono ?_); rintro e a1 h1; unfold CauP at h1; dsimp only at h1; obtain ⟨b1, hm1, B1a, B2a, B3a, B4a, m1a, m2a, m3a, m4a, d1a, d2a, d3a, d4a, rfl, hk1⟩ := h1))
 obtain ⟨W1, hW1⟩ : ∃ W1, W1 = a1.alloc (Obj.cells #[Value.slice B1a m1a d1a, Value.int .i64 D1.hor, Value.int .i64 D1.now, Value.slice B2a m2a d2a, Value.slice B3a m3a d3a, Value.slice B4a m4a d4a] 27) := ⟨_, rfl⟩
 obtain ⟨gB, hgB⟩ : ∃ gB, gB = a1.heap.size := ⟨_, rfl⟩
 have bW1 : Later a1 W1 := by rw [hW1]; exact (Later.refl _).alloc _
 have rgB : Row W1 gB 27 [.slice B1a m1a d1a, .int .i64 D1.hor, .int .i64 D1.now, .slice B2a m2a d2a, .slice B3a m3a d3a, .slice B4a m4a d4a] := by rw [hW1, hgB]; exact Row.new _ _ _
 rw [<- hW1, <- hgB]
 have L1 := hide (b0.trans (bi.trans (b1.trans bW1))); have RB1 := hide rgB; have KB1 := hide ((hk1.weaken (b0.trans bi).size).later bW1); have MB1 := hide hm1
 have HGB : Hid (w.heap.size <= gB) := hide (by rw [hgB]; exact (b0.trans (bi.trans b1)).size)
 clear hW1 hgB b0 bi b1 bW1 rgB hk1 hm1 hi
 have x0 := (RB1.out.later (Later.refl _)).cell (i := 0) rfl; have x1 := (RB1.out.later (Later.refl _)).cell (i := 1) rfl; have x2 := (RB1.out.later (Later.refl _)).cell (i := 2) rfl; have x3 := (RB1.out.later (Later.refl _)).cell (i := 3) rfl; have x4 := (RB1.out.later (Later.refl _)).cell (i := 4) rfl; have x5 := (RB1.out.later (Later.refl _)).cell (i := 5) rfl
 have HA6 : Hid (∀ W, BookIn W (.slice B1a m1a d1a) (.slice B2a m2a d2a) (.slice B3a m3a d3a) (.slice B4a m4a d4a) D1 -> Sq 1 iCells W (.slice none 0 0) [] -> Calls Tryz.prog 12 #[.agg #[.slice B1a m1a d1a, .int .i64 D1.hor, .int .i64 D1.now, .slice B2a m2a d2a, .slice B3a m3a d3a, .slice B4a m4a d4a], .agg #[.int .i64 3, .int .i64 0, .int .i64 0, .int .i64 0, .int .i64 0, .int .i64 0, .int .i64 39, .int .i64 100, .slice none 0 0]] W (CauP W (.ok D2))) := hide (fun W hB hQ => by
  have h2 := apply_calls W B1a B2a B3a B4a none m1a m2a m3a m4a 0 d1a d2a d3a d4a 0 D1 (mkCap 39 100) hB fit0 hQ (by decide)
  rw [HE2.out] at h2; exact h2)
 go_upto_region 7 with (go_at_call 12; (refine (HA6.out _ (KB1.out.book (fit_of_may MB1.out)) (Sq.nil _ _ _)).mono ?_); rintro e a3 h1; unfold CauP at h1; dsimp only at h1; obtain ⟨b3, hm3, B1b, B2b, B3b, B4b, m1b, m2b, m3b, m4b, d1b, d2b, d3b, d4b, rfl, hk3⟩ := h1; have rk := RB1.out.later b3; have k0 := rk.cell (i := 0) rfl; have kz0 := rk.frozen 0; have k1 := rk.cell (i := 1) rfl; have kz1 := rk.frozen 1; have k2 := rk.cell (i := 2) rfl; have kz2 := rk.frozen 2; have k3 := rk.cell (i := 3) rfl; have kz3 := rk.frozen 3; have k4 := rk.cell (i := 4) rfl; have kz4 := rk.frozen 4; have k5 := rk.cell (i := 5) rfl; have kz5 := rk.frozen 5; have RK3 := hide rk; clear rk)
 obtain ⟨W3, hW3⟩ : ∃ W, W = ((((((a3.setCell ⟨gB, 0, none⟩ (.slice B1b m1b d1b)).setCell ⟨gB, 1, none⟩ (.int .i64 D2.hor)).setCell ⟨gB, 2, none⟩ (.int .i64 D2.now)).setCell ⟨gB, 3, none⟩ (.slice B2b m2b d2b)).setCell ⟨gB, 4, none⟩ (.slice B3b m3b d3b)).setCell ⟨gB, 5, none⟩ (.slice B4b m4b d4b)) := ⟨_, rfl⟩
 have ooW3 : Only gB a3 W3 := by rw [hW3]; exact only6 gB (.slice B1b m1b d1b) (.int .i64 D2.hor) (.int .i64 D2.now) (.slice B2b m2b d2b) (.slice B3b m3b d3b) (.slice B4b m4b d4b)
 have RB3 := hide (show Row W3 gB 27 [.slice B1b m1b d1b, .int .i64 D2.hor, .int .i64 D2.now, .slice B2b m2b d2b, .slice B3b m3b d3b, .slice B4b m4b d4b] from by rw [hW3]; exact RK3.out.put6 _ _ _ _ _ _)
 have KB3 := hide ((hk3.weaken L1.out.size).box (IsBox.book RK3.out) ooW3)
 rw [<- hW3]
 clear hW3
 have L3 := hide ((L1.out.trans b3).only ooW3 HGB.out); have MB3 := hide hm3
 clear ooW3 b3 hk3 hm3 x0 x1 x2 x3 x4 x5 k0 k1 k2 k3 k4 k5 kz0 kz1 kz2 kz3 kz4 kz5 RK3
 have x0 := (RB3.out.later (Later.refl _)).cell (i := 0) rfl; have x1 := (RB3.out.later (Later.refl _)).cell (i := 1) rfl; have x2 := (RB3.out.later (Later.refl _)).cell (i := 2) rfl; have x3 := (RB3.out.later (Later.refl _)).cell (i := 3) rfl; have x4 := (RB3.out.later (Later.refl _)).cell (i := 4) rfl; have x5 := (RB3.out.later (Later.refl _)).cell (i := 5) rfl
 have SQ7 : Sq 1 iCells (W3.alloc (Obj.cells #[Value.int .i64 q] 3)) (.slice (some ⟨W3.heap.size, 0, none⟩) 1 1) [q] := sq_one (Row.new W3 3 [.int .i64 q])
 have HQ7 := hide SQ7
 have HLA7 : Hid (Later W3 (W3.alloc (Obj.cells #[Value.int .i64 q] 3))) := hide ((Later.refl _).alloc _)
 clear SQ7
 have y0 := (RB3.out.later HLA7.out).cell (i := 0) rfl; have y1 := (RB3.out.later HLA7.out).cell (i := 1) rfl; have y2 := (RB3.out.later HLA7.out).cell (i := 2) rfl; have y3 := (RB3.out.later HLA7.out).cell (i := 3) rfl; have y4 := (RB3.out.later HLA7.out).cell (i := 4) rfl; have y5 := (RB3.out.later HLA7.out).cell (i := 5) rfl
 have HA7 : Hid (∀ W, BookIn W (.slice B1b m1b d1b) (.slice B2b m2b d2b) (.slice B3b m3b d3b) (.slice B4b m4b d4b) D2 -> Sq 1 iCells W (.slice (some ⟨W3.heap.size, 0, none⟩) 1 1) [q] -> Calls Tryz.prog 12 #[.agg #[.slice B1b m1b d1b, .int .i64 D2.hor, .int .i64 D2.now, .slice B2b m2b d2b, .slice B3b m3b d3b, .slice B4b m4b d4b], .agg #[.int .i64 5, .int .i64 0, .int .i64 0, .int .i64 0, .int .i64 0, .int .i64 0, .int .i64 39, .int .i64 0, .slice (some ⟨W3.heap.size, 0, none⟩) 1 1]] W (CauP W (.ok D3))) := hide (fun W hB hQ => by
  have h2 := apply_calls W B1b B2b B3b B4b (some ⟨W3.heap.size, 0, none⟩) m1b m2b m3b m4b 1 d1b d2b d3b d4b 1 D2 (mkCom 39 [q]) hB fit0 hQ (by simp [mkCom])
  rw [HE3.out] at h2; exact h2)
 go_upto_region 8 with (go_at_call 12; (refine (HA7.out _ ((KB3.out.later HLA7.out).book (fit_of_may MB3.out)) HQ7.out).mono ?_); rintro e a4 h1; unfold CauP at h1; dsimp only at h1; obtain ⟨b4, hm4, B1c, B2c, B3c, B4c, m1c, m2c, m3c, m4c, d1c, d2c, d3c, d4c, rfl, hk4⟩ := h1; have rk := RB3.out.later (HLA7.out.trans b4); have k0 := rk.cell (i := 0) rfl; have kz0 := rk.frozen 0; have k1 := rk.cell (i := 1) rfl; have kz1 := rk.frozen 1; have k2 := rk.cell (i := 2) rfl; have kz2 := rk.frozen 2; have k3 := rk.cell (i := 3) rfl; have kz3 := rk.frozen 3; have k4 := rk.cell (i := 4) rfl; have kz4 := rk.frozen 4; have k5 := rk.cell (i := 5) rfl; have kz5 := rk.frozen 5; have RK4 := hide rk; clear rk)
 obtain ⟨W4, hW4⟩ : ∃ W, W = ((((((a4.setCell ⟨gB, 0, none⟩ (.slice B1c m1c d1c)).setCell ⟨gB, 1, none⟩ (.int .i64 D3.hor)).setCell ⟨gB, 2, none⟩ (.int .i64 D3.now)).setCell ⟨gB, 3, none⟩ (.slice B2c m2c d2c)).setCell ⟨gB, 4, none⟩ (.slice B3c m3c d3c)).setCell ⟨gB, 5, none⟩ (.slice B4c m4c d4c)) := ⟨_, rfl⟩
 have ooW4 : Only gB a4 W4 := by rw [hW4]; exact only6 gB (.slice B1c m1c d1c) (.int .i64 D3.hor) (.int .i64 D3.now) (.slice B2c m2c d2c) (.slice B3c m3c d3c) (.slice B4c m4c d4c)
 have RB4 := hide (show Row W4 gB 27 [.slice B1c m1c d1c, .int .i64 D3.hor, .int .i64 D3.now, .slice B2c m2c d2c, .slice B3c m3c d3c, .slice B4c m4c d4c] from by rw [hW4]; exact RK4.out.put6 _ _ _ _ _ _)
 have KB4 := hide ((hk4.weaken (L3.out.trans HLA7.out).size).box (IsBox.book RK4.out) ooW4)
 rw [<- hW4]
 clear hW4
 have HL4 := hide ((L3.out.trans (HLA7.out.trans b4)).only ooW4 HGB.out)
 have HB4 : Hid (BkAt w.heap.size W4 gB D3) := hide ⟨_, _, _, _, _, _, _, _, _, _, _, _, RB4.out, KB4.out⟩
 clear ooW4 b4 hk4 hm4 x0 x1 x2 x3 x4 x5 y0 y1 y2 y3 y4 y5 k0 k1 k2 k3 k4 k5 kz0 kz1 kz2 kz3 kz4 kz5 RK4 RB1 KB1 MB1 RB3 KB3 MB3 RB4 KB4 hw1 hw2 hw3
 go_wp2_with fail
 go_loopw [7] (fun iv wr => ∃ (j : Nat) (D : PBook), iv = .int .i64 (j : Int) /\ j <= 60 /\ Hid (BkAt w.heap.size wr gB D) /\ Hid (FroP D) /\ Hid (Later w wr)) (fun iv _ => (60 - intOf iv).toNat)
 case atStart => exact ⟨0, D3, rfl, Nat.zero_le _, HB4, HF3, HL4⟩
 case round =>
  obtain ⟨j, D, rfl, hj, HB, HF, HL⟩ := hrel
  by_cases hjn : j < n
  rotate_left
  ·have t1 : decide (j < n) = false := by simpa using hjn
   have HB0 := HB; have HF0 := HF; have HL0 := HL
   clear HB HF HL
   go_wp2_with fail
   go_loopw [] (fun wr => ∃ (D : PBook), Hid (BkAt w.heap.size wr gB D) /\ Hid (FroP D) /\ Hid (Later w wr)) (fun wr => 40 - bkNow wr gB)
   case atStart => exact ⟨D, HB0, HF0, HL0⟩
   case round =>
    obtain ⟨D, HB, HF, HL⟩ := hrel
    obtain ⟨B1r, B2r, B3r, B4r, m1r, m2r, m3r, m4r, d1r, d2r, d3r, d4r, hRr, hKr⟩ := HB.out
    have RR := hide hRr; have KR := hide hKr
    clear hRr hKr
    have hnow := HF.out.now
    have x2 := RR.out.cell (i := 2) rfl
    by_cases h40 : D.now < 40
    ·have t1 : decide (D.now < 40) = true := by simpa using h40
     have HAV : Hid (applyV D mkAdv = .ok { D with now := D.now + 1 }) := hide (adv_ok HF.out.may h40)
     have HF2 : Hid (FroP { D with now := D.now + 1 }) := hide (HF.out.apply HAV.out)
     have HLT := hide h40
     clear h40 x2
     have HA24 : Hid (∀ W, BookIn W (.slice B1r m1r d1r) (.slice B2r m2r d2r) (.slice B3r m3r d3r) (.slice B4r m4r d4r) D -> Sq 1 iCells W (.slice none 0 0) [] -> Calls Tryz.prog 12 #[.agg #[.slice B1r m1r d1r, .int .i64 D.hor, .int .i64 D.now, .slice B2r m2r d2r, .slice B3r m3r d3r, .slice B4r m4r d4r], .agg #[.int .i64 4, .int .i64 0, .int .i64 0, .int .i64 0, .int .i64 0, .int .i64 0, .int .i64 0, .int .i64 0, .slice none 0 0]] W (CauP W (.ok { D with now := D.now + 1 }))) := hide (fun W hB hQ => by
      have h2 := apply_calls W B1r B2r B3r B4r none m1r m2r m3r m4r 0 d1r d2r d3r d4r 0 D (mkAdv) hB fit0 hQ (by decide)
      rw [HAV.out] at h2; exact h2)
     have x0 := (RR.out.later (Later.refl _)).cell (i := 0) rfl; have x1 := (RR.out.later (Later.refl _)).cell (i := 1) rfl; have x2 := (RR.out.later (Later.refl _)).cell (i := 2) rfl; have x3 := (RR.out.later (Later.refl _)).cell (i := 3) rfl; have x4 := (RR.out.later (Later.refl _)).cell (i := 4) rfl; have x5 := (RR.out.later (Later.refl _)).cell (i := 5) rfl
     have hwn : IntKind.i64.wrap (D.now + 1) = D.now + 1 := IntWalk.i64_in _ (by omega)
     go_upto_region 25 with (go_at_call 12; (refine (HA24.out _ (KR.out.book (fit_of_may HF.out.may)) (Sq.nil _ _ _)).mono ?_); rintro e a24 h1; unfold CauP at h1; dsimp only at h1; obtain ⟨b24, hm24, B1q, B2q, B3q, B4q, m1q, m2q, m3q, m4q, d1q, d2q, d3q, d4q, rfl, hk24⟩ := h1)
     obtain ⟨W5, hW5⟩ : ∃ W5, W5 = a24.alloc (Obj.cells #[Value.slice B1q m1q d1q, Value.int .i64 D.hor, Value.int .i64 (D.now + 1), Value.slice B2q m2q d2q, Value.slice B3q m3q d3q, Value.slice B4q m4q d4q] 27) := ⟨_, rfl⟩
     obtain ⟨g5, hg5⟩ : ∃ g5, g5 = a24.heap.size := ⟨_, rfl⟩
     have bW5 : Later a24 W5 := by rw [hW5]; exact (Later.refl _).alloc _
     have rg5 : Row W5 g5 27 [.slice B1q m1q d1q, .int .i64 D.hor, .int .i64 (D.now + 1), .slice B2q m2q d2q, .slice B3q m3q d3q, .slice B4q m4q d4q] := by rw [hW5, hg5]; exact Row.new _ _ _
     rw [<- hW5, <- hg5]
     have L5 := hide (b24.trans bW5)
     have R5 := hide rg5; have K5 := hide ((hk24.weaken HL.out.size).later bW5)
     clear hW5 hg5 b24 bW5 rg5 hk24 x0 x1 x2 x3 x4 x5 hm24
     have rr5 := RR.out.later L5.out
     have k0 := rr5.cell (i := 0) rfl; have kz0 := rr5.frozen 0; have k1 := rr5.cell (i := 1) rfl; have kz1 := rr5.frozen 1; have k2 := rr5.cell (i := 2) rfl; have kz2 := rr5.frozen 2; have k3 := rr5.cell (i := 3) rfl; have kz3 := rr5.frozen 3; have k4 := rr5.cell (i := 4) rfl; have kz4 := rr5.frozen 4; have k5 := rr5.cell (i := 5) rfl; have kz5 := rr5.frozen 5
     have RR5 := hide rr5
     clear rr5
     have x0 := (R5.out.later (Later.refl _)).cell (i := 0) rfl; have x1 := (R5.out.later (Later.refl _)).cell (i := 1) rfl; have x2 := (R5.out.later (Later.refl _)).cell (i := 2) rfl; have x3 := (R5.out.later (Later.refl _)).cell (i := 3) rfl; have x4 := (R5.out.later (Later.refl _)).cell (i := 4) rfl; have x5 := (R5.out.later (Later.refl _)).cell (i := 5) rfl
     go_wp2_with fail
     obtain ⟨W9, hW9⟩ : ∃ W, W = ((((((W5.setCell ⟨gB, 0, none⟩ (.slice B1q m1q d1q)).setCell ⟨gB, 1, none⟩ (.int .i64 D.hor)).setCell ⟨gB, 2, none⟩ (.int .i64 (D.now + 1))).setCell ⟨gB, 3, none⟩ (.slice B2q m2q d2q)).setCell ⟨gB, 4, none⟩ (.slice B3q m3q d3q)).setCell ⟨gB, 5, none⟩ (.slice B4q m4q d4q)) := ⟨_, rfl⟩
     have oo : Only gB W5 W9 := by rw [hW9]; exact only6 gB (.slice B1q m1q d1q) (.int .i64 D.hor) (.int .i64 (D.now + 1)) (.slice B2q m2q d2q) (.slice B3q m3q d3q) (.slice B4q m4q d4q)
     have R9 : Row W9 gB 27 [.slice B1q m1q d1q, .int .i64 D.hor, .int .i64 (D.now + 1), .slice B2q m2q d2q, .slice B3q m3q d3q, .slice B4q m4q d4q] := by rw [hW9]; exact RR5.out.put6 _ _ _ _ _ _
     have K9 := K5.out.box (IsBox.book RR5.out) oo
     rw [<- hW9]
     clear hW9
     refine ⟨⟨{ D with now := D.now + 1 }, hide ⟨B1q, B2q, B3q, B4q, m1q, m2q, m3q, m4q, d1q, d2q, d3q, d4q, R9, K9⟩, HF2, hide ((HL.out.trans L5.out).only oo HGB.out)⟩, ?_⟩
     have e1 := bkNow_eq (RR.out.cell (i := 2) rfl)
     have e2 := bkNow_eq (R9.cell (i := 2) rfl)
     rw [e1, e2]
     have h9 := hnow; have h8 := HLT.out
     omega
    ·have t1 : decide (D.now < 40) = false := by simpa using h40
     have HAV : Hid (applyV D mkAdv = .error 3) := hide (adv_full HF.out.may (by omega))
     clear h40
     have HA28 : Hid (∀ W, BookIn W (.slice B1r m1r d1r) (.slice B2r m2r d2r) (.slice B3r m3r d3r) (.slice B4r m4r d4r) D -> Sq 1 iCells W (.slice none 0 0) [] -> Calls Tryz.prog 12 #[.agg #[.slice B1r m1r d1r, .int .i64 D.hor, .int .i64 D.now, .slice B2r m2r d2r, .slice B3r m3r d3r, .slice B4r m4r d4r], .agg #[.int .i64 4, .int .i64 0, .int .i64 0, .int .i64 0, .int .i64 0, .int .i64 0, .int .i64 0, .int .i64 0, .slice none 0 0]] W (CauP W (.error 3))) := hide (fun W hB hQ => by
      have h2 := apply_calls W B1r B2r B3r B4r none m1r m2r m3r m4r 0 d1r d2r d3r d4r 0 D (mkAdv) hB fit0 hQ (by decide)
      rw [HAV.out] at h2; exact h2)
     have x0 := (RR.out.later (Later.refl _)).cell (i := 0) rfl; have x1 := (RR.out.later (Later.refl _)).cell (i := 1) rfl; have x2 := (RR.out.later (Later.refl _)).cell (i := 2) rfl; have x3 := (RR.out.later (Later.refl _)).cell (i := 3) rfl; have x4 := (RR.out.later (Later.refl _)).cell (i := 4) rfl; have x5 := (RR.out.later (Later.refl _)).cell (i := 5) rfl
     go_upto_region 29 with (go_at_call 12; (refine (HA28.out _ (KR.out.book (fit_of_may HF.out.may)) (Sq.nil _ _ _)).mono ?_); rintro e a28 ⟨b28, rfl⟩)
     obtain ⟨W5, hW5⟩ : ∃ W5, W5 = a28.alloc (Obj.cells #[Value.slice none 0 0, Value.int .i64 0, Value.int .i64 0, Value.slice none 0 0, Value.slice none 0 0, Value.slice none 0 0] 27) := ⟨_, rfl⟩
     obtain ⟨g5, hg5⟩ : ∃ g5, g5 = a28.heap.size := ⟨_, rfl⟩
     have bW5 : Later a28 W5 := by rw [hW5]; exact (Later.refl _).alloc _
     have rg5 : Row W5 g5 27 [.slice none 0 0, .int .i64 0, .int .i64 0, .slice none 0 0, .slice none 0 0, .slice none 0 0] := by rw [hW5, hg5]; exact Row.new _ _ _
     rw [<- hW5, <- hg5]
     have L5 := hide (b28.trans bW5)
     clear hW5 hg5 b28 bW5 rg5 x0 x1 x2 x3 x4 x5
     have KSS := hide ((KR.out.later L5.out).book (fit_of_may HF.out.may))
     have x0 := (RR.out.later L5.out).cell (i := 0) rfl; have x1 := (RR.out.later L5.out).cell (i := 1) rfl; have x2 := (RR.out.later L5.out).cell (i := 2) rfl; have x3 := (RR.out.later L5.out).cell (i := 3) rfl; have x4 := (RR.out.later L5.out).cell (i := 4) rfl; have x5 := (RR.out.later L5.out).cell (i := 5) rfl
     go_wp2_with (go_at_call 15; (with_reducible refine (refsame_calls _ B1r B2r B3r B4r B1r B2r B3r B4r m1r m2r m3r m4r d1r d2r d3r d4r m1r m2r m3r m4r d1r d2r d3r d4r D KSS.out KSS.out).mono ?_); rintro e a29 ⟨rfl, b29⟩)
     go_ret
     exact ⟨rfl, (HL.out.trans L5.out).trans b29⟩
  have t1 : decide (j < n) = true := by simpa using hjn
  by_cases hj6 : j < 60
  rotate_left
  ·have t2 : decide ((j : Int) < 60) = false := by simp; omega
   have HB0 := HB; have HF0 := HF; have HL0 := HL
   clear HB HF HL
   go_wp2_with fail
   go_loopw [] (fun wr => ∃ (D : PBook), Hid (BkAt w.heap.size wr gB D) /\ Hid (FroP D) /\ Hid (Later w wr)) (fun wr => 40 - bkNow wr gB)
   case atStart => exact ⟨D, HB0, HF0, HL0⟩
   case round =>
    obtain ⟨D, HB, HF, HL⟩ := hrel
    obtain ⟨B1r, B2r, B3r, B4r, m1r, m2r, m3r, m4r, d1r, d2r, d3r, d4r, hRr, hKr⟩ := HB.out
    have RR := hide hRr; have KR := hide hKr
    clear hRr hKr
    have hnow := HF.out.now
    have x2 := RR.out.cell (i := 2) rfl
    by_cases h40 : D.now < 40
    ·have t1 : decide (D.now < 40) = true := by simpa using h40
     have HAV : Hid (applyV D mkAdv = .ok { D with now := D.now + 1 }) := hide (adv_ok HF.out.may h40)
     have HF2 : Hid (FroP { D with now := D.now + 1 }) := hide (HF.out.apply HAV.out)
     have HLT := hide h40
     clear h40 x2
     have HA24 : Hid (∀ W, BookIn W (.slice B1r m1r d1r) (.slice B2r m2r d2r) (.slice B3r m3r d3r) (.slice B4r m4r d4r) D -> Sq 1 iCells W (.slice none 0 0) [] -> Calls Tryz.prog 12 #[.agg #[.slice B1r m1r d1r, .int .i64 D.hor, .int .i64 D.now, .slice B2r m2r d2r, .slice B3r m3r d3r, .slice B4r m4r d4r], .agg #[.int .i64 4, .int .i64 0, .int .i64 0, .int .i64 0, .int .i64 0, .int .i64 0, .int .i64 0, .int .i64 0, .slice none 0 0]] W (CauP W (.ok { D with now := D.now + 1 }))) := hide (fun W hB hQ => by
      have h2 := apply_calls W B1r B2r B3r B4r none m1r m2r m3r m4r 0 d1r d2r d3r d4r 0 D (mkAdv) hB fit0 hQ (by decide)
      rw [HAV.out] at h2; exact h2)
     have x0 := (RR.out.later (Later.refl _)).cell (i := 0) rfl; have x1 := (RR.out.later (Later.refl _)).cell (i := 1) rfl; have x2 := (RR.out.later (Later.refl _)).cell (i := 2) rfl; have x3 := (RR.out.later (Later.refl _)).cell (i := 3) rfl; have x4 := (RR.out.later (Later.refl _)).cell (i := 4) rfl; have x5 := (RR.out.later (Later.refl _)).cell (i := 5) rfl
     have hwn : IntKind.i64.wrap (D.now + 1) = D.now + 1 := IntWalk.i64_in _ (by omega)
     go_upto_region 25 with (go_at_call 12; (refine (HA24.out _ (KR.out.book (fit_of_may HF.out.may)) (Sq.nil _ _ _)).mono ?_); rintro e a24 h1; unfold CauP at h1; dsimp only at h1; obtain ⟨b24, hm24, B1q, B2q, B3q, B4q, m1q, m2q, m3q, m4q, d1q, d2q, d3q, d4q, rfl, hk24⟩ := h1)
     obtain ⟨W5, hW5⟩ : ∃ W5, W5 = a24.alloc (Obj.cells #[Value.slice B1q m1q d1q, Value.int .i64 D.hor, Value.int .i64 (D.now + 1), Value.slice B2q m2q d2q, Value.slice B3q m3q d3q, Value.slice B4q m4q d4q] 27) := ⟨_, rfl⟩
     obtain ⟨g5, hg5⟩ : ∃ g5, g5 = a24.heap.size := ⟨_, rfl⟩
     have bW5 : Later a24 W5 := by rw [hW5]; exact (Later.refl _).alloc _
     have rg5 : Row W5 g5 27 [.slice B1q m1q d1q, .int .i64 D.hor, .int .i64 (D.now + 1), .slice B2q m2q d2q, .slice B3q m3q d3q, .slice B4q m4q d4q] := by rw [hW5, hg5]; exact Row.new _ _ _
     rw [<- hW5, <- hg5]
     have L5 := hide (b24.trans bW5)
     have R5 := hide rg5; have K5 := hide ((hk24.weaken HL.out.size).later bW5)
     clear hW5 hg5 b24 bW5 rg5 hk24 x0 x1 x2 x3 x4 x5 hm24
     have rr5 := RR.out.later L5.out
     have k0 := rr5.cell (i := 0) rfl; have kz0 := rr5.frozen 0; have k1 := rr5.cell (i := 1) rfl; have kz1 := rr5.frozen 1; have k2 := rr5.cell (i := 2) rfl; have kz2 := rr5.frozen 2; have k3 := rr5.cell (i := 3) rfl; have kz3 := rr5.frozen 3; have k4 := rr5.cell (i := 4) rfl; have kz4 := rr5.frozen 4; have k5 := rr5.cell (i := 5) rfl; have kz5 := rr5.frozen 5
     have RR5 := hide rr5
     clear rr5
     have x0 := (R5.out.later (Later.refl _)).cell (i := 0) rfl; have x1 := (R5.out.later (Later.refl _)).cell (i := 1) rfl; have x2 := (R5.out.later (Later.refl _)).cell (i := 2) rfl; have x3 := (R5.out.later (Later.refl _)).cell (i := 3) rfl; have x4 := (R5.out.later (Later.refl _)).cell (i := 4) rfl; have x5 := (R5.out.later (Later.refl _)).cell (i := 5) rfl
     go_wp2_with fail
     obtain ⟨W9, hW9⟩ : ∃ W, W = ((((((W5.setCell ⟨gB, 0, none⟩ (.slice B1q m1q d1q)).setCell ⟨gB, 1, none⟩ (.int .i64 D.hor)).setCell ⟨gB, 2, none⟩ (.int .i64 (D.now + 1))).setCell ⟨gB, 3, none⟩ (.slice B2q m2q d2q)).setCell ⟨gB, 4, none⟩ (.slice B3q m3q d3q)).setCell ⟨gB, 5, none⟩ (.slice B4q m4q d4q)) := ⟨_, rfl⟩
     have oo : Only gB W5 W9 := by rw [hW9]; exact only6 gB (.slice B1q m1q d1q) (.int .i64 D.hor) (.int .i64 (D.now + 1)) (.slice B2q m2q d2q) (.slice B3q m3q d3q) (.slice B4q m4q d4q)
     have R9 : Row W9 gB 27 [.slice B1q m1q d1q, .int .i64 D.hor, .int .i64 (D.now + 1), .slice B2q m2q d2q, .slice B3q m3q d3q, .slice B4q m4q d4q] := by rw [hW9]; exact RR5.out.put6 _ _ _ _ _ _
     have K9 := K5.out.box (IsBox.book RR5.out) oo
     rw [<- hW9]
     clear hW9
     refine ⟨⟨{ D with now := D.now + 1 }, hide ⟨B1q, B2q, B3q, B4q, m1q, m2q, m3q, m4q, d1q, d2q, d3q, d4q, R9, K9⟩, HF2, hide ((HL.out.trans L5.out).only oo HGB.out)⟩, ?_⟩
     have e1 := bkNow_eq (RR.out.cell (i := 2) rfl)
     have e2 := bkNow_eq (R9.cell (i := 2) rfl)
     rw [e1, e2]
     have h9 := hnow; have h8 := HLT.out
     omega
    ·have t1 : decide (D.now < 40) = false := by simpa using h40
     have HAV : Hid (applyV D mkAdv = .error 3) := hide (adv_full HF.out.may (by omega))
     clear h40
     have HA28 : Hid (∀ W, BookIn W (.slice B1r m1r d1r) (.slice B2r m2r d2r) (.slice B3r m3r d3r) (.slice B4r m4r d4r) D -> Sq 1 iCells W (.slice none 0 0) [] -> Calls Tryz.prog 12 #[.agg #[.slice B1r m1r d1r, .int .i64 D.hor, .int .i64 D.now, .slice B2r m2r d2r, .slice B3r m3r d3r, .slice B4r m4r d4r], .agg #[.int .i64 4, .int .i64 0, .int .i64 0, .int .i64 0, .int .i64 0, .int .i64 0, .int .i64 0, .int .i64 0, .slice none 0 0]] W (CauP W (.error 3))) := hide (fun W hB hQ => by
      have h2 := apply_calls W B1r B2r B3r B4r none m1r m2r m3r m4r 0 d1r d2r d3r d4r 0 D (mkAdv) hB fit0 hQ (by decide)
      rw [HAV.out] at h2; exact h2)
     have x0 := (RR.out.later (Later.refl _)).cell (i := 0) rfl; have x1 := (RR.out.later (Later.refl _)).cell (i := 1) rfl; have x2 := (RR.out.later (Later.refl _)).cell (i := 2) rfl; have x3 := (RR.out.later (Later.refl _)).cell (i := 3) rfl; have x4 := (RR.out.later (Later.refl _)).cell (i := 4) rfl; have x5 := (RR.out.later (Later.refl _)).cell (i := 5) rfl
     go_upto_region 29 with (go_at_call 12; (refine (HA28.out _ (KR.out.book (fit_of_may HF.out.may)) (Sq.nil _ _ _)).mono ?_); rintro e a28 ⟨b28, rfl⟩)
     obtain ⟨W5, hW5⟩ : ∃ W5, W5 = a28.alloc (Obj.cells #[Value.slice none 0 0, Value.int .i64 0, Value.int .i64 0, Value.slice none 0 0, Value.slice none 0 0, Value.slice none 0 0] 27) := ⟨_, rfl⟩
     obtain ⟨g5, hg5⟩ : ∃ g5, g5 = a28.heap.size := ⟨_, rfl⟩
     have bW5 : Later a28 W5 := by rw [hW5]; exact (Later.refl _).alloc _
     have rg5 : Row W5 g5 27 [.slice none 0 0, .int .i64 0, .int .i64 0, .slice none 0 0, .slice none 0 0, .slice none 0 0] := by rw [hW5, hg5]; exact Row.new _ _ _
     rw [<- hW5, <- hg5]
     have L5 := hide (b28.trans bW5)
     clear hW5 hg5 b28 bW5 rg5 x0 x1 x2 x3 x4 x5
     have KSS := hide ((KR.out.later L5.out).book (fit_of_may HF.out.may))
     have x0 := (RR.out.later L5.out).cell (i := 0) rfl; have x1 := (RR.out.later L5.out).cell (i := 1) rfl; have x2 := (RR.out.later L5.out).cell (i := 2) rfl; have x3 := (RR.out.later L5.out).cell (i := 3) rfl; have x4 := (RR.out.later L5.out).cell (i := 4) rfl; have x5 := (RR.out.later L5.out).cell (i := 5) rfl
     go_wp2_with (go_at_call 15; (with_reducible refine (refsame_calls _ B1r B2r B3r B4r B1r B2r B3r B4r m1r m2r m3r m4r d1r d2r d3r d4r m1r m2r m3r m4r d1r d2r d3r d4r D KSS.out KSS.out).mono ?_); rintro e a29 ⟨rfl, b29⟩)
     go_ret
     exact ⟨rfl, (HL.out.trans L5.out).trans b29⟩
  have t2 : decide ((j : Int) < 60) = true := by simp; omega
  obtain ⟨o, ho⟩ : ∃ o, l[j]? = some o := ⟨l[j]'(by have := HNL.out; omega), List.getElem?_eq_getElem _⟩
  obtain ⟨b1, off1, rfl, Aq, nq, cq, hqq, y0, y1, y2, y3, y4, y5, y6, y7, y8⟩ := (HOP.out.later HL.out).at9 ho
  have hj0 : (0 : Int) <= (j : Int) := by omega
  have hj1 : (j : Int) < n := by omega
  by_cases h100 : 100 < nq
  ·have t3 : decide ((100 : Int) < (nq : Int)) = true := by simp; omega
   clear ho hqq
   go_wp2_with fail
   go_ret
   exact ⟨rfl, HL.out⟩
  have t3 : decide ((100 : Int) < (nq : Int)) = false := by simp; omega
  have hnq : nq = o.qtys.length := by
   obtain ⟨_, _, _, e, e2, -⟩ := hqq.form
   injection e with _ e3 _; omega
  obtain ⟨r, hr⟩ : ∃ r, applyV D o = r := ⟨_, rfl⟩
  obtain ⟨B1p, B2p, B3p, B4p, m1p, m2p, m3p, m4p, d1p, d2p, d3p, d4p, hRp, hKp⟩ := HB.out
  have HCA : Hid (∀ W, Later wr W -> Calls Tryz.prog 12 #[.agg #[.slice B1p m1p d1p, .int .i64 D.hor, .int .i64 D.now, .slice B2p m2p d2p, .slice B3p m3p d3p, .slice B4p m4p d4p], .agg #[.int .i64 o.kind, .int .i64 o.ord.id, .int .i64 o.ord.item, .int .i64 o.ord.due, .int .i64 o.ord.qty, .int .i64 o.id, .int .i64 o.period, .int .i64 o.qty, .slice Aq nq cq]] W (CauP W r)) := hide (fun W hW => by
   have h2 := apply_calls W B1p B2p B3p B4p Aq m1p m2p m3p m4p nq d1p d2p d3p d4p cq D o ((hKp.later hW).book (fit_of_may HF.out.may)) (HFT.out o (List.mem_of_getElem? ho)) (hqq.later hW) (by omega)
   rw [hr] at h2; exact h2)
  have HR := hide hr
  have HRp := hide hRp; have HKp := hide hKp
  have HYS : Hid (∀ w', Later wr w' -> w'.cell? ⟨b1, off1 + j * 9, none⟩ = some (.int .i64 o.kind) /\ w'.cell? ⟨b1, off1 + j * 9 + 1, none⟩ = some (.int .i64 o.ord.id) /\ w'.cell? ⟨b1, off1 + j * 9 + 2, none⟩ = some (.int .i64 o.ord.item) /\ w'.cell? ⟨b1, off1 + j * 9 + 3, none⟩ = some (.int .i64 o.ord.due) /\ w'.cell? ⟨b1, off1 + j * 9 + 4, none⟩ = some (.int .i64 o.ord.qty) /\ w'.cell? ⟨b1, off1 + j * 9 + 5, none⟩ = some (.int .i64 o.id) /\ w'.cell? ⟨b1, off1 + j * 9 + 6, none⟩ = some (.int .i64 o.period) /\ w'.cell? ⟨b1, off1 + j * 9 + 7, none⟩ = some (.int .i64 o.qty) /\ w'.cell? ⟨b1, off1 + j * 9 + 8, none⟩ = some (.slice Aq nq cq)) := hide (fun w' hb => ⟨Later.cell hb y0, Later.cell hb y1, Later.cell hb y2, Later.cell hb y3, Later.cell hb y4, Later.cell hb y5, Later.cell hb y6, Later.cell hb y7, Later.cell hb y8⟩)
  have HT1 : Hid (∀ w', Later wr w' -> w'.cell? ⟨gB, 0, none⟩ = some (.slice B1p m1p d1p) /\ w'.cell? ⟨gB, 1, none⟩ = some (.int .i64 D.hor) /\ w'.cell? ⟨gB, 2, none⟩ = some (.int .i64 D.now) /\ w'.cell? ⟨gB, 3, none⟩ = some (.slice B2p m2p d2p) /\ w'.cell? ⟨gB, 4, none⟩ = some (.slice B3p m3p d3p) /\ w'.cell? ⟨gB, 5, none⟩ = some (.slice B4p m4p d4p) /\ w'.cell? ⟨b1, off1 + j * 9, none⟩ = some (.int .i64 o.kind) /\ w'.cell? ⟨b1, off1 + j * 9 + 1, none⟩ = some (.int .i64 o.ord.id) /\ w'.cell? ⟨b1, off1 + j * 9 + 2, none⟩ = some (.int .i64 o.ord.item) /\ w'.cell? ⟨b1, off1 + j * 9 + 3, none⟩ = some (.int .i64 o.ord.due) /\ w'.cell? ⟨b1, off1 + j * 9 + 4, none⟩ = some (.int .i64 o.ord.qty) /\ w'.cell? ⟨b1, off1 + j * 9 + 5, none⟩ = some (.int .i64 o.id) /\ w'.cell? ⟨b1, off1 + j * 9 + 6, none⟩ = some (.int .i64 o.period) /\ w'.cell? ⟨b1, off1 + j * 9 + 7, none⟩ = some (.int .i64 o.qty) /\ w'.cell? ⟨b1, off1 + j * 9 + 8, none⟩ = some (.slice Aq nq cq)) := hide (fun w' hb => ⟨(hRp.later hb).cell rfl, (hRp.later hb).cell rfl, (hRp.later hb).cell rfl, (hRp.later hb).cell rfl, (hRp.later hb).cell rfl, (hRp.later hb).cell rfl, Later.cell hb y0, Later.cell hb y1, Later.cell hb y2, Later.cell hb y3, Later.cell hb y4, Later.cell hb y5, Later.cell hb y6, Later.cell hb y7, Later.cell hb y8⟩)
  clear ho hqq h100 hnq hr hRp hKp y0 y1 y2 y3 y4 y5 y6 y7
  have hmx : Tryz.prog.follows .mixedOrders = true := by kernel_rfl
  go_upto_region 15 with fail
  clear y8
  cases r with
  | ok D' =>
    refine wp_region_N (fun w' => w'.cell? ⟨gB, 0, none⟩ = some (.slice B1p m1p d1p) /\ w'.cell? ⟨gB, 1, none⟩ = some (.int .i64 D.hor) /\ w'.cell? ⟨gB, 2, none⟩ = some (.int .i64 D.now) /\ w'.cell? ⟨gB, 3, none⟩ = some (.slice B2p m2p d2p) /\ w'.cell? ⟨gB, 4, none⟩ = some (.slice B3p m3p d3p) /\ w'.cell? ⟨gB, 5, none⟩ = some (.slice B4p m4p d4p) /\ w'.cell? ⟨b1, off1 + j * 9, none⟩ = some (.int .i64 o.kind) /\ w'.cell? ⟨b1, off1 + j * 9 + 1, none⟩ = some (.int .i64 o.ord.id) /\ w'.cell? ⟨b1, off1 + j * 9 + 2, none⟩ = some (.int .i64 o.ord.item) /\ w'.cell? ⟨b1, off1 + j * 9 + 3, none⟩ = some (.int .i64 o.ord.due) /\ w'.cell? ⟨b1, off1 + j * 9 + 4, none⟩ = some (.int .i64 o.ord.qty) /\ w'.cell? ⟨b1, off1 + j * 9 + 5, none⟩ = some (.int .i64 o.id) /\ w'.cell? ⟨b1, off1 + j * 9 + 6, none⟩ = some (.int .i64 o.period) /\ w'.cell? ⟨b1, off1 + j * 9 + 7, none⟩ = some (.int .i64 o.qty) /\ w'.cell? ⟨b1, off1 + j * 9 + 8, none⟩ = some (.slice Aq nq cq)) [] hmx (HT1.out _ lt_) (fun hHeld => ?_)
    refine tkB 64 0 ?_
    refine tkB 65 1 ?_
    refine tkB 66 2 ?_
    refine tkB 67 3 ?_
    refine tkB 68 4 ?_
    refine wpAnyN_ready (rs := [5, 9]) (by kernel_rfl) (by simp) ?_
    refine AllReadyN.held rfl (by rfl) (fun K hK => ?_) ?_
    ·go_simp
     refine (HCA.out _ lt_).mono ?_
     rintro e a5 h1
     unfold CauP at h1
     dsimp only at h1
     obtain ⟨b5, hm5, B1q, B2q, B3q, B4q, m1q, m2q, m3q, m4q, d1q, d2q, d3q, d4q, rfl, hk5⟩ := h1
     have HK5 := hide hk5; have HM5 := hide hm5
     clear hk5 hm5
     have l5 : Later wr a5 := Later.trans lt_ b5
     refine hK.out _ _ ?_ (fun hHeld => ?_)
     ·exact HT1.out _ lt_
     clear hK K
     try simp only [Act.put, s1_, s2_, s3_]
     refine tkB 63 6 ?_
     refine tkB 70 7 ?_
     refine tkB 71 8 ?_
     refine wpAnyN_ready (rs := [9]) (by kernel_rfl) (by simp) ?_
     refine AllReadyN.held rfl (by rfl) (fun K hK => ?_) AllReadyN.nil
     go_simp
     obtain ⟨g8, hg8⟩ : ∃ g, g = a5.heap.size := ⟨_, rfl⟩
     rw [<- hg8]
     have hgl : wr.heap.size <= g8 := by rw [hg8]; exact l5.size
     have hz8 : Row (a5.alloc (Obj.cells #[Value.slice none 0 0, Value.int .i64 0, Value.int .i64 0, Value.slice none 0 0, Value.slice none 0 0, Value.slice none 0 0] 27)) g8 27 [.slice none 0 0, .int .i64 0, .int .i64 0, .slice none 0 0, .slice none 0 0, .slice none 0 0] := by rw [hg8]; exact Row.new _ _ _
     have q0 := hz8.cell (i := 0) rfl; have qz0 := hz8.frozen 0; have q1 := hz8.cell (i := 1) rfl; have qz1 := hz8.frozen 1; have q2 := hz8.cell (i := 2) rfl; have qz2 := hz8.frozen 2; have q3 := hz8.cell (i := 3) rfl; have qz3 := hz8.frozen 3; have q4 := hz8.cell (i := 4) rfl; have qz4 := hz8.frozen 4; have q5 := hz8.cell (i := 5) rfl; have qz5 := hz8.frozen 5
     have HZ9 := hide hz8
     clear hz8 hg8
     refine hK.out _ _ ?_ (fun hHeld => ?_)
     ·exact HT1.out _ lt_
     clear hK K
     try simp only [Act.put, s1_, s2_, s3_]
     refine wpAnyN_ready (rs := [10]) (by kernel_rfl) (by simp) ?_
     refine AllReadyN.held rfl (by rfl) (fun K hK => ?_) AllReadyN.nil
     go_simp
     refine hK.out _ _ ?_ (fun hHeld => ?_)
     ·exact HT1.out _ (Later.setCell (Later.setCell (Later.setCell (Later.setCell (Later.setCell (Later.setCell (l5.alloc _) hgl _) hgl _) hgl _) hgl _) hgl _) hgl _)
     clear hK K
     try simp only [Act.put, s1_, s2_, s3_]
     refine tkB 9 11 ?_
     refine wpAnyN_done (by kernel_rfl) ?_ _
     clear hHeld
     obtain ⟨W8, hW8⟩ : ∃ W, W = (((((((a5.alloc (Obj.cells #[Value.slice none 0 0, Value.int .i64 0, Value.int .i64 0, Value.slice none 0 0, Value.slice none 0 0, Value.slice none 0 0] 27)).setCell ⟨g8, 0, none⟩ (.slice B1q m1q d1q)).setCell ⟨g8, 1, none⟩ (.int .i64 D'.hor)).setCell ⟨g8, 2, none⟩ (.int .i64 D'.now)).setCell ⟨g8, 3, none⟩ (.slice B2q m2q d2q)).setCell ⟨g8, 4, none⟩ (.slice B3q m3q d3q)).setCell ⟨g8, 5, none⟩ (.slice B4q m4q d4q)) := ⟨_, rfl⟩
     have oo8 : Only g8 (a5.alloc (Obj.cells #[Value.slice none 0 0, Value.int .i64 0, Value.int .i64 0, Value.slice none 0 0, Value.slice none 0 0, Value.slice none 0 0] 27)) W8 := by rw [hW8]; exact only6 g8 (.slice B1q m1q d1q) (.int .i64 D'.hor) (.int .i64 D'.now) (.slice B2q m2q d2q) (.slice B3q m3q d3q) (.slice B4q m4q d4q)
     have R8 : Hid (Row W8 g8 27 [.slice B1q m1q d1q, .int .i64 D'.hor, .int .i64 D'.now, .slice B2q m2q d2q, .slice B3q m3q d3q, .slice B4q m4q d4q]) := hide (by rw [hW8]; exact HZ9.out.put6 _ _ _ _ _ _)
     have L8 : Hid (Later wr W8) := hide (Later.only (l5.alloc _) oo8 hgl)
     have K8 : Hid (BkN w.heap.size W8 (.slice B1q m1q d1q) (.slice B2q m2q d2q) (.slice B3q m3q d3q) (.slice B4q m4q d4q) D') := hide (((HK5.out.weaken HL.out.drew.size).later ((Later.refl _).alloc _)).box (IsBox.book HZ9.out) oo8)
     rw [<- hW8]
     clear hW8 oo8 q0 q1 q2 q3 q4 q5 qz0 qz1 qz2 qz3 qz4 qz5 l5 b5 HZ9
     have rp8 := HRp.out.later L8.out
     have x0 := (R8.out.later (Later.refl _)).cell (i := 0) rfl; have x1 := (R8.out.later (Later.refl _)).cell (i := 1) rfl; have x2 := (R8.out.later (Later.refl _)).cell (i := 2) rfl; have x3 := (R8.out.later (Later.refl _)).cell (i := 3) rfl; have x4 := (R8.out.later (Later.refl _)).cell (i := 4) rfl; have x5 := (R8.out.later (Later.refl _)).cell (i := 5) rfl
     have k0 := rp8.cell (i := 0) rfl; have kz0 := rp8.frozen 0; have k1 := rp8.cell (i := 1) rfl; have kz1 := rp8.frozen 1; have k2 := rp8.cell (i := 2) rfl; have kz2 := rp8.frozen 2; have k3 := rp8.cell (i := 3) rfl; have kz3 := rp8.frozen 3; have k4 := rp8.cell (i := 4) rfl; have kz4 := rp8.frozen 4; have k5 := rp8.cell (i := 5) rfl; have kz5 := rp8.frozen 5
     have HRp8 := hide rp8
     clear rp8
     go_upto_region 18 with fail
     obtain ⟨W9, hW9⟩ : ∃ W, W = ((((((W8.setCell ⟨gB, 0, none⟩ (.slice B1q m1q d1q)).setCell ⟨gB, 1, none⟩ (.int .i64 D'.hor)).setCell ⟨gB, 2, none⟩ (.int .i64 D'.now)).setCell ⟨gB, 3, none⟩ (.slice B2q m2q d2q)).setCell ⟨gB, 4, none⟩ (.slice B3q m3q d3q)).setCell ⟨gB, 5, none⟩ (.slice B4q m4q d4q)) := ⟨_, rfl⟩
     have oo9 : Only gB W8 W9 := by rw [hW9]; exact only6 gB (.slice B1q m1q d1q) (.int .i64 D'.hor) (.int .i64 D'.now) (.slice B2q m2q d2q) (.slice B3q m3q d3q) (.slice B4q m4q d4q)
     have R9 : Row W9 gB 27 [.slice B1q m1q d1q, .int .i64 D'.hor, .int .i64 D'.now, .slice B2q m2q d2q, .slice B3q m3q d3q, .slice B4q m4q d4q] := by rw [hW9]; exact HRp8.out.put6 _ _ _ _ _ _
     have HB9 : Hid (BkAt w.heap.size W9 gB D') := hide ⟨B1q, B2q, B3q, B4q, m1q, m2q, m3q, m4q, d1q, d2q, d3q, d4q, R9, K8.out.box (IsBox.book HRp8.out) oo9⟩
     have HL9 : Hid (Later w W9) := hide ((HL.out.trans L8.out).only oo9 HGB.out)
     have HF9 := hide (HF.out.apply HR.out)
     rw [<- hW9]
     clear hW9 oo9 R9 x0 x1 x2 x3 x4 x5 k0 k1 k2 k3 k4 k5 kz0 kz1 kz2 kz3 kz4 kz5 K8 R8 HRp8
     obtain ⟨B1r, B2r, B3r, B4r, m1r, m2r, m3r, m4r, d1r, d2r, d3r, d4r, hRr, hKr⟩ := HB9.out
     have RR := hide hRr; have KR := hide hKr
     clear hRr hKr
     by_cases late : 39 < D'.now
     ·have t5 : decide (39 < D'.now) = true := by simpa using late
      have HCM : Hid (applyV D' (mkCom 39 [0]) = .error 13) := hide (by have h := HF9.out.com; rw [if_pos late] at h; exact h)
      have HCC : Hid (applyV D' (mkCap 39 1) = .error 13) := hide (by have h := HF9.out.cap; rw [if_pos late] at h; exact h)
      clear late
      have HSQ : Hid (Sq 1 iCells (W9.alloc (Obj.cells #[Value.int .i64 0] 3)) (.slice (some ⟨W9.heap.size, 0, none⟩) 1 1) [0]) := hide (sq_one (Row.new W9 3 [.int .i64 0]))
      have HLA : Hid (Later W9 (W9.alloc (Obj.cells #[Value.int .i64 0] 3))) := hide ((Later.refl _).alloc _)
      have HA18 : Hid (∀ W, BookIn W (.slice B1r m1r d1r) (.slice B2r m2r d2r) (.slice B3r m3r d3r) (.slice B4r m4r d4r) D' -> Sq 1 iCells W (.slice (some ⟨W9.heap.size, 0, none⟩) 1 1) [0] -> Calls Tryz.prog 12 #[.agg #[.slice B1r m1r d1r, .int .i64 D'.hor, .int .i64 D'.now, .slice B2r m2r d2r, .slice B3r m3r d3r, .slice B4r m4r d4r], .agg #[.int .i64 5, .int .i64 0, .int .i64 0, .int .i64 0, .int .i64 0, .int .i64 0, .int .i64 39, .int .i64 0, .slice (some ⟨W9.heap.size, 0, none⟩) 1 1]] W (CauP W (.error 13))) := hide (fun W hB hQ => by
       have h2 := apply_calls W B1r B2r B3r B4r (some ⟨W9.heap.size, 0, none⟩) m1r m2r m3r m4r 1 d1r d2r d3r d4r 1 D' (mkCom 39 [0]) hB fit0 hQ (by decide)
       rw [HCM.out] at h2; exact h2)
      have HA19 : Hid (∀ W, BookIn W (.slice B1r m1r d1r) (.slice B2r m2r d2r) (.slice B3r m3r d3r) (.slice B4r m4r d4r) D' -> Sq 1 iCells W (.slice none 0 0) [] -> Calls Tryz.prog 12 #[.agg #[.slice B1r m1r d1r, .int .i64 D'.hor, .int .i64 D'.now, .slice B2r m2r d2r, .slice B3r m3r d3r, .slice B4r m4r d4r], .agg #[.int .i64 3, .int .i64 0, .int .i64 0, .int .i64 0, .int .i64 0, .int .i64 0, .int .i64 39, .int .i64 1, .slice none 0 0]] W (CauP W (.error 13))) := hide (fun W hB hQ => by
       have h2 := apply_calls W B1r B2r B3r B4r none m1r m2r m3r m4r 0 d1r d2r d3r d4r 0 D' (mkCap 39 1) hB fit0 hQ (by decide)
       rw [HCC.out] at h2; exact h2)
      have x0 := (RR.out.later (Later.refl _)).cell (i := 0) rfl; have x1 := (RR.out.later (Later.refl _)).cell (i := 1) rfl; have x2 := (RR.out.later (Later.refl _)).cell (i := 2) rfl; have x3 := (RR.out.later (Later.refl _)).cell (i := 3) rfl; have x4 := (RR.out.later (Later.refl _)).cell (i := 4) rfl; have x5 := (RR.out.later (Later.refl _)).cell (i := 5) rfl
      have y0 := (RR.out.later HLA.out).cell (i := 0) rfl; have y1 := (RR.out.later HLA.out).cell (i := 1) rfl; have y2 := (RR.out.later HLA.out).cell (i := 2) rfl; have y3 := (RR.out.later HLA.out).cell (i := 3) rfl; have y4 := (RR.out.later HLA.out).cell (i := 4) rfl; have y5 := (RR.out.later HLA.out).cell (i := 5) rfl
      go_upto_region 19 with (go_at_call 12; (refine (HA18.out _ ((KR.out.later HLA.out).book (fit_of_may HF9.out.may)) HSQ.out).mono ?_); rintro e a18 ⟨b18, rfl⟩)
      obtain ⟨W10, hW10⟩ : ∃ W10, W10 = a18.alloc (Obj.cells #[Value.slice none 0 0, Value.int .i64 0, Value.int .i64 0, Value.slice none 0 0, Value.slice none 0 0, Value.slice none 0 0] 27) := ⟨_, rfl⟩
      obtain ⟨g10, hg10⟩ : ∃ g10, g10 = a18.heap.size := ⟨_, rfl⟩
      have bW10 : Later a18 W10 := by rw [hW10]; exact (Later.refl _).alloc _
      have rg10 : Row W10 g10 27 [.slice none 0 0, .int .i64 0, .int .i64 0, .slice none 0 0, .slice none 0 0, .slice none 0 0] := by rw [hW10, hg10]; exact Row.new _ _ _
      rw [<- hW10, <- hg10]
      have L10 := hide (HLA.out.trans (b18.trans bW10))
      clear hW10 hg10 b18 bW10 rg10 x0 x1 x2 x3 x4 x5 y0 y1 y2 y3 y4 y5
      have x0 := (RR.out.later L10.out).cell (i := 0) rfl; have x1 := (RR.out.later L10.out).cell (i := 1) rfl; have x2 := (RR.out.later L10.out).cell (i := 2) rfl; have x3 := (RR.out.later L10.out).cell (i := 3) rfl; have x4 := (RR.out.later L10.out).cell (i := 4) rfl; have x5 := (RR.out.later L10.out).cell (i := 5) rfl
      go_wp2_with (go_at_call 12; (refine (HA19.out _ ((KR.out.later L10.out).book (fit_of_may HF9.out.may)) (Sq.nil _ _ _)).mono ?_); rintro e a19 ⟨b19, rfl⟩; have z2 := ((RR.out.later (L10.out.trans b19)).alloc (Obj.cells #[Value.slice none 0 0, Value.int .i64 0, Value.int .i64 0, Value.slice none 0 0, Value.slice none 0 0, Value.slice none 0 0] 27)).cell (i := 2) rfl)
      have LE := (L10.out.trans b19).alloc (Obj.cells #[Value.slice none 0 0, Value.int .i64 0, Value.int .i64 0, Value.slice none 0 0, Value.slice none 0 0, Value.slice none 0 0] 27)
      refine ⟨⟨j+1, D', by go_num, by omega, hide (HB9.out.later LE), HF9, hide (HL9.out.trans LE)⟩, by simp [intOf]; omega⟩
     ·have t5 : decide (39 < D'.now) = false := by simpa using late
      have HCM : Hid (applyV D' (mkCom 39 [0]) = .error 9) := hide (by have h := HF9.out.com; rw [if_neg late] at h; exact h)
      have HCC : Hid (applyV D' (mkCap 39 1) = .error 9) := hide (by have h := HF9.out.cap; rw [if_neg late] at h; exact h)
      clear late
      have HSQ : Hid (Sq 1 iCells (W9.alloc (Obj.cells #[Value.int .i64 0] 3)) (.slice (some ⟨W9.heap.size, 0, none⟩) 1 1) [0]) := hide (sq_one (Row.new W9 3 [.int .i64 0]))
      have HLA : Hid (Later W9 (W9.alloc (Obj.cells #[Value.int .i64 0] 3))) := hide ((Later.refl _).alloc _)
      have HA18 : Hid (∀ W, BookIn W (.slice B1r m1r d1r) (.slice B2r m2r d2r) (.slice B3r m3r d3r) (.slice B4r m4r d4r) D' -> Sq 1 iCells W (.slice (some ⟨W9.heap.size, 0, none⟩) 1 1) [0] -> Calls Tryz.prog 12 #[.agg #[.slice B1r m1r d1r, .int .i64 D'.hor, .int .i64 D'.now, .slice B2r m2r d2r, .slice B3r m3r d3r, .slice B4r m4r d4r], .agg #[.int .i64 5, .int .i64 0, .int .i64 0, .int .i64 0, .int .i64 0, .int .i64 0, .int .i64 39, .int .i64 0, .slice (some ⟨W9.heap.size, 0, none⟩) 1 1]] W (CauP W (.error 9))) := hide (fun W hB hQ => by
       have h2 := apply_calls W B1r B2r B3r B4r (some ⟨W9.heap.size, 0, none⟩) m1r m2r m3r m4r 1 d1r d2r d3r d4r 1 D' (mkCom 39 [0]) hB fit0 hQ (by decide)
       rw [HCM.out] at h2; exact h2)
      have HA19 : Hid (∀ W, BookIn W (.slice B1r m1r d1r) (.slice B2r m2r d2r) (.slice B3r m3r d3r) (.slice B4r m4r d4r) D' -> Sq 1 iCells W (.slice none 0 0) [] -> Calls Tryz.prog 12 #[.agg #[.slice B1r m1r d1r, .int .i64 D'.hor, .int .i64 D'.now, .slice B2r m2r d2r, .slice B3r m3r d3r, .slice B4r m4r d4r], .agg #[.int .i64 3, .int .i64 0, .int .i64 0, .int .i64 0, .int .i64 0, .int .i64 0, .int .i64 39, .int .i64 1, .slice none 0 0]] W (CauP W (.error 9))) := hide (fun W hB hQ => by
       have h2 := apply_calls W B1r B2r B3r B4r none m1r m2r m3r m4r 0 d1r d2r d3r d4r 0 D' (mkCap 39 1) hB fit0 hQ (by decide)
       rw [HCC.out] at h2; exact h2)
      have x0 := (RR.out.later (Later.refl _)).cell (i := 0) rfl; have x1 := (RR.out.later (Later.refl _)).cell (i := 1) rfl; have x2 := (RR.out.later (Later.refl _)).cell (i := 2) rfl; have x3 := (RR.out.later (Later.refl _)).cell (i := 3) rfl; have x4 := (RR.out.later (Later.refl _)).cell (i := 4) rfl; have x5 := (RR.out.later (Later.refl _)).cell (i := 5) rfl
      have y0 := (RR.out.later HLA.out).cell (i := 0) rfl; have y1 := (RR.out.later HLA.out).cell (i := 1) rfl; have y2 := (RR.out.later HLA.out).cell (i := 2) rfl; have y3 := (RR.out.later HLA.out).cell (i := 3) rfl; have y4 := (RR.out.later HLA.out).cell (i := 4) rfl; have y5 := (RR.out.later HLA.out).cell (i := 5) rfl
      go_upto_region 19 with (go_at_call 12; (refine (HA18.out _ ((KR.out.later HLA.out).book (fit_of_may HF9.out.may)) HSQ.out).mono ?_); rintro e a18 ⟨b18, rfl⟩)
      obtain ⟨W10, hW10⟩ : ∃ W10, W10 = a18.alloc (Obj.cells #[Value.slice none 0 0, Value.int .i64 0, Value.int .i64 0, Value.slice none 0 0, Value.slice none 0 0, Value.slice none 0 0] 27) := ⟨_, rfl⟩
      obtain ⟨g10, hg10⟩ : ∃ g10, g10 = a18.heap.size := ⟨_, rfl⟩
      have bW10 : Later a18 W10 := by rw [hW10]; exact (Later.refl _).alloc _
      have rg10 : Row W10 g10 27 [.slice none 0 0, .int .i64 0, .int .i64 0, .slice none 0 0, .slice none 0 0, .slice none 0 0] := by rw [hW10, hg10]; exact Row.new _ _ _
      rw [<- hW10, <- hg10]
      have L10 := hide (HLA.out.trans (b18.trans bW10))
      clear hW10 hg10 b18 bW10 rg10 x0 x1 x2 x3 x4 x5 y0 y1 y2 y3 y4 y5
      have x0 := (RR.out.later L10.out).cell (i := 0) rfl; have x1 := (RR.out.later L10.out).cell (i := 1) rfl; have x2 := (RR.out.later L10.out).cell (i := 2) rfl; have x3 := (RR.out.later L10.out).cell (i := 3) rfl; have x4 := (RR.out.later L10.out).cell (i := 4) rfl; have x5 := (RR.out.later L10.out).cell (i := 5) rfl
      go_wp2_with (go_at_call 12; (refine (HA19.out _ ((KR.out.later L10.out).book (fit_of_may HF9.out.may)) (Sq.nil _ _ _)).mono ?_); rintro e a19 ⟨b19, rfl⟩; have z2 := ((RR.out.later (L10.out.trans b19)).alloc (Obj.cells #[Value.slice none 0 0, Value.int .i64 0, Value.int .i64 0, Value.slice none 0 0, Value.slice none 0 0, Value.slice none 0 0] 27)).cell (i := 2) rfl)
      have LE := (L10.out.trans b19).alloc (Obj.cells #[Value.slice none 0 0, Value.int .i64 0, Value.int .i64 0, Value.slice none 0 0, Value.slice none 0 0, Value.slice none 0 0] 27)
      refine ⟨⟨j+1, D', by go_num, by omega, hide (HB9.out.later LE), HF9, hide (HL9.out.trans LE)⟩, by simp [intOf]; omega⟩
    refine AllReadyN.held rfl (by rfl) (fun K hK => ?_) AllReadyN.nil
    go_simp
    obtain ⟨g8, hg8⟩ : ∃ g, g = wr.heap.size := ⟨_, rfl⟩
    rw [<- hg8]
    have hgl : wr.heap.size <= g8 := by rw [hg8]; exact Nat.le_refl _
    have HZ8 : Hid (Row (wr.drew.alloc (Obj.cells #[Value.slice none 0 0, Value.int .i64 0, Value.int .i64 0, Value.slice none 0 0, Value.slice none 0 0, Value.slice none 0 0] 27)) g8 27 [.slice none 0 0, .int .i64 0, .int .i64 0, .slice none 0 0, .slice none 0 0, .slice none 0 0]) := hide (by rw [hg8]; exact Row.new wr.drew _ _)
    clear hg8
    refine hK.out _ _ ?_ (fun hHeld => ?_)
    ·exact HT1.out _ lt_
    clear hK K
    try simp only [Act.put, s1_, s2_, s3_]
    refine wpAnyN_ready (rs := [5]) (by kernel_rfl) (by simp) ?_
    refine AllReadyN.held rfl (by rfl) (fun K hK => ?_) AllReadyN.nil
    go_simp
    refine (HCA.out _ lt_).mono ?_
    rintro e a5 h1
    unfold CauP at h1
    dsimp only at h1
    obtain ⟨b5, hm5, B1q, B2q, B3q, B4q, m1q, m2q, m3q, m4q, d1q, d2q, d3q, d4q, rfl, hk5⟩ := h1
    have HK5 := hide hk5; have HM5 := hide hm5
    clear hk5 hm5
    have hz8 := HZ8.out.later b5
    have q0 := hz8.cell (i := 0) rfl; have qz0 := hz8.frozen 0; have q1 := hz8.cell (i := 1) rfl; have qz1 := hz8.frozen 1; have q2 := hz8.cell (i := 2) rfl; have qz2 := hz8.frozen 2; have q3 := hz8.cell (i := 3) rfl; have qz3 := hz8.frozen 3; have q4 := hz8.cell (i := 4) rfl; have qz4 := hz8.frozen 4; have q5 := hz8.cell (i := 5) rfl; have qz5 := hz8.frozen 5
    have HZ9 := hide hz8
    clear hz8
    have l5 : Later wr a5 := Later.trans lt_ b5
    refine hK.out _ _ ?_ (fun hHeld => ?_)
    ·exact HT1.out _ lt_
    clear hK K
    try simp only [Act.put, s1_, s2_, s3_]
    refine tkB 63 6 ?_
    refine tkB 70 7 ?_
    refine tkB 71 8 ?_
    refine wpAnyN_ready (rs := [10]) (by kernel_rfl) (by simp) ?_
    refine AllReadyN.held rfl (by rfl) (fun K hK => ?_) AllReadyN.nil
    go_simp
    refine hK.out _ _ ?_ (fun hHeld => ?_)
    ·exact HT1.out _ (Later.setCell (Later.setCell (Later.setCell (Later.setCell (Later.setCell (Later.setCell l5 hgl _) hgl _) hgl _) hgl _) hgl _) hgl _)
    clear hK K
    try simp only [Act.put, s1_, s2_, s3_]
    refine tkB 9 11 ?_
    refine wpAnyN_done (by kernel_rfl) ?_ _
    clear hHeld
    obtain ⟨W8, hW8⟩ : ∃ W, W = ((((((a5.setCell ⟨g8, 0, none⟩ (.slice B1q m1q d1q)).setCell ⟨g8, 1, none⟩ (.int .i64 D'.hor)).setCell ⟨g8, 2, none⟩ (.int .i64 D'.now)).setCell ⟨g8, 3, none⟩ (.slice B2q m2q d2q)).setCell ⟨g8, 4, none⟩ (.slice B3q m3q d3q)).setCell ⟨g8, 5, none⟩ (.slice B4q m4q d4q)) := ⟨_, rfl⟩
    have oo8 : Only g8 a5 W8 := by rw [hW8]; exact only6 g8 (.slice B1q m1q d1q) (.int .i64 D'.hor) (.int .i64 D'.now) (.slice B2q m2q d2q) (.slice B3q m3q d3q) (.slice B4q m4q d4q)
    have R8 : Hid (Row W8 g8 27 [.slice B1q m1q d1q, .int .i64 D'.hor, .int .i64 D'.now, .slice B2q m2q d2q, .slice B3q m3q d3q, .slice B4q m4q d4q]) := hide (by rw [hW8]; exact HZ9.out.put6 _ _ _ _ _ _)
    have L8 : Hid (Later wr W8) := hide (Later.only l5 oo8 hgl)
    have K8 : Hid (BkN w.heap.size W8 (.slice B1q m1q d1q) (.slice B2q m2q d2q) (.slice B3q m3q d3q) (.slice B4q m4q d4q) D') := hide (((HK5.out.weaken (HL.out.drew.alloc _).size)).box (IsBox.book HZ9.out) oo8)
    rw [<- hW8]
    clear hW8 oo8 q0 q1 q2 q3 q4 q5 qz0 qz1 qz2 qz3 qz4 qz5 l5 b5 HZ9
    have rp8 := HRp.out.later L8.out
    have x0 := (R8.out.later (Later.refl _)).cell (i := 0) rfl; have x1 := (R8.out.later (Later.refl _)).cell (i := 1) rfl; have x2 := (R8.out.later (Later.refl _)).cell (i := 2) rfl; have x3 := (R8.out.later (Later.refl _)).cell (i := 3) rfl; have x4 := (R8.out.later (Later.refl _)).cell (i := 4) rfl; have x5 := (R8.out.later (Later.refl _)).cell (i := 5) rfl
    have k0 := rp8.cell (i := 0) rfl; have kz0 := rp8.frozen 0; have k1 := rp8.cell (i := 1) rfl; have kz1 := rp8.frozen 1; have k2 := rp8.cell (i := 2) rfl; have kz2 := rp8.frozen 2; have k3 := rp8.cell (i := 3) rfl; have kz3 := rp8.frozen 3; have k4 := rp8.cell (i := 4) rfl; have kz4 := rp8.frozen 4; have k5 := rp8.cell (i := 5) rfl; have kz5 := rp8.frozen 5
    have HRp8 := hide rp8
    clear rp8
    go_upto_region 18 with fail
    obtain ⟨W9, hW9⟩ : ∃ W, W = ((((((W8.setCell ⟨gB, 0, none⟩ (.slice B1q m1q d1q)).setCell ⟨gB, 1, none⟩ (.int .i64 D'.hor)).setCell ⟨gB, 2, none⟩ (.int .i64 D'.now)).setCell ⟨gB, 3, none⟩ (.slice B2q m2q d2q)).setCell ⟨gB, 4, none⟩ (.slice B3q m3q d3q)).setCell ⟨gB, 5, none⟩ (.slice B4q m4q d4q)) := ⟨_, rfl⟩
    have oo9 : Only gB W8 W9 := by rw [hW9]; exact only6 gB (.slice B1q m1q d1q) (.int .i64 D'.hor) (.int .i64 D'.now) (.slice B2q m2q d2q) (.slice B3q m3q d3q) (.slice B4q m4q d4q)
    have R9 : Row W9 gB 27 [.slice B1q m1q d1q, .int .i64 D'.hor, .int .i64 D'.now, .slice B2q m2q d2q, .slice B3q m3q d3q, .slice B4q m4q d4q] := by rw [hW9]; exact HRp8.out.put6 _ _ _ _ _ _
    have HB9 : Hid (BkAt w.heap.size W9 gB D') := hide ⟨B1q, B2q, B3q, B4q, m1q, m2q, m3q, m4q, d1q, d2q, d3q, d4q, R9, K8.out.box (IsBox.book HRp8.out) oo9⟩
    have HL9 : Hid (Later w W9) := hide ((HL.out.trans L8.out).only oo9 HGB.out)
    have HF9 := hide (HF.out.apply HR.out)
    rw [<- hW9]
    clear hW9 oo9 R9 x0 x1 x2 x3 x4 x5 k0 k1 k2 k3 k4 k5 kz0 kz1 kz2 kz3 kz4 kz5 K8 R8 HRp8
    obtain ⟨B1r, B2r, B3r, B4r, m1r, m2r, m3r, m4r, d1r, d2r, d3r, d4r, hRr, hKr⟩ := HB9.out
    have RR := hide hRr; have KR := hide hKr
    clear hRr hKr
    by_cases late : 39 < D'.now
    ·have t5 : decide (39 < D'.now) = true := by simpa using late
     have HCM : Hid (applyV D' (mkCom 39 [0]) = .error 13) := hide (by have h := HF9.out.com; rw [if_pos late] at h; exact h)
     have HCC : Hid (applyV D' (mkCap 39 1) = .error 13) := hide (by have h := HF9.out.cap; rw [if_pos late] at h; exact h)
     clear late
     have HSQ : Hid (Sq 1 iCells (W9.alloc (Obj.cells #[Value.int .i64 0] 3)) (.slice (some ⟨W9.heap.size, 0, none⟩) 1 1) [0]) := hide (sq_one (Row.new W9 3 [.int .i64 0]))
     have HLA : Hid (Later W9 (W9.alloc (Obj.cells #[Value.int .i64 0] 3))) := hide ((Later.refl _).alloc _)
     have HA18 : Hid (∀ W, BookIn W (.slice B1r m1r d1r) (.slice B2r m2r d2r) (.slice B3r m3r d3r) (.slice B4r m4r d4r) D' -> Sq 1 iCells W (.slice (some ⟨W9.heap.size, 0, none⟩) 1 1) [0] -> Calls Tryz.prog 12 #[.agg #[.slice B1r m1r d1r, .int .i64 D'.hor, .int .i64 D'.now, .slice B2r m2r d2r, .slice B3r m3r d3r, .slice B4r m4r d4r], .agg #[.int .i64 5, .int .i64 0, .int .i64 0, .int .i64 0, .int .i64 0, .int .i64 0, .int .i64 39, .int .i64 0, .slice (some ⟨W9.heap.size, 0, none⟩) 1 1]] W (CauP W (.error 13))) := hide (fun W hB hQ => by
      have h2 := apply_calls W B1r B2r B3r B4r (some ⟨W9.heap.size, 0, none⟩) m1r m2r m3r m4r 1 d1r d2r d3r d4r 1 D' (mkCom 39 [0]) hB fit0 hQ (by decide)
      rw [HCM.out] at h2; exact h2)
     have HA19 : Hid (∀ W, BookIn W (.slice B1r m1r d1r) (.slice B2r m2r d2r) (.slice B3r m3r d3r) (.slice B4r m4r d4r) D' -> Sq 1 iCells W (.slice none 0 0) [] -> Calls Tryz.prog 12 #[.agg #[.slice B1r m1r d1r, .int .i64 D'.hor, .int .i64 D'.now, .slice B2r m2r d2r, .slice B3r m3r d3r, .slice B4r m4r d4r], .agg #[.int .i64 3, .int .i64 0, .int .i64 0, .int .i64 0, .int .i64 0, .int .i64 0, .int .i64 39, .int .i64 1, .slice none 0 0]] W (CauP W (.error 13))) := hide (fun W hB hQ => by
      have h2 := apply_calls W B1r B2r B3r B4r none m1r m2r m3r m4r 0 d1r d2r d3r d4r 0 D' (mkCap 39 1) hB fit0 hQ (by decide)
      rw [HCC.out] at h2; exact h2)
     have x0 := (RR.out.later (Later.refl _)).cell (i := 0) rfl; have x1 := (RR.out.later (Later.refl _)).cell (i := 1) rfl; have x2 := (RR.out.later (Later.refl _)).cell (i := 2) rfl; have x3 := (RR.out.later (Later.refl _)).cell (i := 3) rfl; have x4 := (RR.out.later (Later.refl _)).cell (i := 4) rfl; have x5 := (RR.out.later (Later.refl _)).cell (i := 5) rfl
     have y0 := (RR.out.later HLA.out).cell (i := 0) rfl; have y1 := (RR.out.later HLA.out).cell (i := 1) rfl; have y2 := (RR.out.later HLA.out).cell (i := 2) rfl; have y3 := (RR.out.later HLA.out).cell (i := 3) rfl; have y4 := (RR.out.later HLA.out).cell (i := 4) rfl; have y5 := (RR.out.later HLA.out).cell (i := 5) rfl
     go_upto_region 19 with (go_at_call 12; (refine (HA18.out _ ((KR.out.later HLA.out).book (fit_of_may HF9.out.may)) HSQ.out).mono ?_); rintro e a18 ⟨b18, rfl⟩)
     obtain ⟨W10, hW10⟩ : ∃ W10, W10 = a18.alloc (Obj.cells #[Value.slice none 0 0, Value.int .i64 0, Value.int .i64 0, Value.slice none 0 0, Value.slice none 0 0, Value.slice none 0 0] 27) := ⟨_, rfl⟩
     obtain ⟨g10, hg10⟩ : ∃ g10, g10 = a18.heap.size := ⟨_, rfl⟩
     have bW10 : Later a18 W10 := by rw [hW10]; exact (Later.refl _).alloc _
     have rg10 : Row W10 g10 27 [.slice none 0 0, .int .i64 0, .int .i64 0, .slice none 0 0, .slice none 0 0, .slice none 0 0] := by rw [hW10, hg10]; exact Row.new _ _ _
     rw [<- hW10, <- hg10]
     have L10 := hide (HLA.out.trans (b18.trans bW10))
     clear hW10 hg10 b18 bW10 rg10 x0 x1 x2 x3 x4 x5 y0 y1 y2 y3 y4 y5
     have x0 := (RR.out.later L10.out).cell (i := 0) rfl; have x1 := (RR.out.later L10.out).cell (i := 1) rfl; have x2 := (RR.out.later L10.out).cell (i := 2) rfl; have x3 := (RR.out.later L10.out).cell (i := 3) rfl; have x4 := (RR.out.later L10.out).cell (i := 4) rfl; have x5 := (RR.out.later L10.out).cell (i := 5) rfl
     go_wp2_with (go_at_call 12; (refine (HA19.out _ ((KR.out.later L10.out).book (fit_of_may HF9.out.may)) (Sq.nil _ _ _)).mono ?_); rintro e a19 ⟨b19, rfl⟩; have z2 := ((RR.out.later (L10.out.trans b19)).alloc (Obj.cells #[Value.slice none 0 0, Value.int .i64 0, Value.int .i64 0, Value.slice none 0 0, Value.slice none 0 0, Value.slice none 0 0] 27)).cell (i := 2) rfl)
     have LE := (L10.out.trans b19).alloc (Obj.cells #[Value.slice none 0 0, Value.int .i64 0, Value.int .i64 0, Value.slice none 0 0, Value.slice none 0 0, Value.slice none 0 0] 27)
     refine ⟨⟨j+1, D', by go_num, by omega, hide (HB9.out.later LE), HF9, hide (HL9.out.trans LE)⟩, by simp [intOf]; omega⟩
    ·have t5 : decide (39 < D'.now) = false := by simpa using late
     have HCM : Hid (applyV D' (mkCom 39 [0]) = .error 9) := hide (by have h := HF9.out.com; rw [if_neg late] at h; exact h)
     have HCC : Hid (applyV D' (mkCap 39 1) = .error 9) := hide (by have h := HF9.out.cap; rw [if_neg late] at h; exact h)
     clear late
     have HSQ : Hid (Sq 1 iCells (W9.alloc (Obj.cells #[Value.int .i64 0] 3)) (.slice (some ⟨W9.heap.size, 0, none⟩) 1 1) [0]) := hide (sq_one (Row.new W9 3 [.int .i64 0]))
     have HLA : Hid (Later W9 (W9.alloc (Obj.cells #[Value.int .i64 0] 3))) := hide ((Later.refl _).alloc _)
     have HA18 : Hid (∀ W, BookIn W (.slice B1r m1r d1r) (.slice B2r m2r d2r) (.slice B3r m3r d3r) (.slice B4r m4r d4r) D' -> Sq 1 iCells W (.slice (some ⟨W9.heap.size, 0, none⟩) 1 1) [0] -> Calls Tryz.prog 12 #[.agg #[.slice B1r m1r d1r, .int .i64 D'.hor, .int .i64 D'.now, .slice B2r m2r d2r, .slice B3r m3r d3r, .slice B4r m4r d4r], .agg #[.int .i64 5, .int .i64 0, .int .i64 0, .int .i64 0, .int .i64 0, .int .i64 0, .int .i64 39, .int .i64 0, .slice (some ⟨W9.heap.size, 0, none⟩) 1 1]] W (CauP W (.error 9))) := hide (fun W hB hQ => by
      have h2 := apply_calls W B1r B2r B3r B4r (some ⟨W9.heap.size, 0, none⟩) m1r m2r m3r m4r 1 d1r d2r d3r d4r 1 D' (mkCom 39 [0]) hB fit0 hQ (by decide)
      rw [HCM.out] at h2; exact h2)
     have HA19 : Hid (∀ W, BookIn W (.slice B1r m1r d1r) (.slice B2r m2r d2r) (.slice B3r m3r d3r) (.slice B4r m4r d4r) D' -> Sq 1 iCells W (.slice none 0 0) [] -> Calls Tryz.prog 12 #[.agg #[.slice B1r m1r d1r, .int .i64 D'.hor, .int .i64 D'.now, .slice B2r m2r d2r, .slice B3r m3r d3r, .slice B4r m4r d4r], .agg #[.int .i64 3, .int .i64 0, .int .i64 0, .int .i64 0, .int .i64 0, .int .i64 0, .int .i64 39, .int .i64 1, .slice none 0 0]] W (CauP W (.error 9))) := hide (fun W hB hQ => by
      have h2 := apply_calls W B1r B2r B3r B4r none m1r m2r m3r m4r 0 d1r d2r d3r d4r 0 D' (mkCap 39 1) hB fit0 hQ (by decide)
      rw [HCC.out] at h2; exact h2)
     have x0 := (RR.out.later (Later.refl _)).cell (i := 0) rfl; have x1 := (RR.out.later (Later.refl _)).cell (i := 1) rfl; have x2 := (RR.out.later (Later.refl _)).cell (i := 2) rfl; have x3 := (RR.out.later (Later.refl _)).cell (i := 3) rfl; have x4 := (RR.out.later (Later.refl _)).cell (i := 4) rfl; have x5 := (RR.out.later (Later.refl _)).cell (i := 5) rfl
     have y0 := (RR.out.later HLA.out).cell (i := 0) rfl; have y1 := (RR.out.later HLA.out).cell (i := 1) rfl; have y2 := (RR.out.later HLA.out).cell (i := 2) rfl; have y3 := (RR.out.later HLA.out).cell (i := 3) rfl; have y4 := (RR.out.later HLA.out).cell (i := 4) rfl; have y5 := (RR.out.later HLA.out).cell (i := 5) rfl
     go_upto_region 19 with (go_at_call 12; (refine (HA18.out _ ((KR.out.later HLA.out).book (fit_of_may HF9.out.may)) HSQ.out).mono ?_); rintro e a18 ⟨b18, rfl⟩)
     obtain ⟨W10, hW10⟩ : ∃ W10, W10 = a18.alloc (Obj.cells #[Value.slice none 0 0, Value.int .i64 0, Value.int .i64 0, Value.slice none 0 0, Value.slice none 0 0, Value.slice none 0 0] 27) := ⟨_, rfl⟩
     obtain ⟨g10, hg10⟩ : ∃ g10, g10 = a18.heap.size := ⟨_, rfl⟩
     have bW10 : Later a18 W10 := by rw [hW10]; exact (Later.refl _).alloc _
     have rg10 : Row W10 g10 27 [.slice none 0 0, .int .i64 0, .int .i64 0, .slice none 0 0, .slice none 0 0, .slice none 0 0] := by rw [hW10, hg10]; exact Row.new _ _ _
     rw [<- hW10, <- hg10]
     have L10 := hide (HLA.out.trans (b18.trans bW10))
     clear hW10 hg10 b18 bW10 rg10 x0 x1 x2 x3 x4 x5 y0 y1 y2 y3 y4 y5
     have x0 := (RR.out.later L10.out).cell (i := 0) rfl; have x1 := (RR.out.later L10.out).cell (i := 1) rfl; have x2 := (RR.out.later L10.out).cell (i := 2) rfl; have x3 := (RR.out.later L10.out).cell (i := 3) rfl; have x4 := (RR.out.later L10.out).cell (i := 4) rfl; have x5 := (RR.out.later L10.out).cell (i := 5) rfl
     go_wp2_with (go_at_call 12; (refine (HA19.out _ ((KR.out.later L10.out).book (fit_of_may HF9.out.may)) (Sq.nil _ _ _)).mono ?_); rintro e a19 ⟨b19, rfl⟩; have z2 := ((RR.out.later (L10.out.trans b19)).alloc (Obj.cells #[Value.slice none 0 0, Value.int .i64 0, Value.int .i64 0, Value.slice none 0 0, Value.slice none 0 0, Value.slice none 0 0] 27)).cell (i := 2) rfl)
     have LE := (L10.out.trans b19).alloc (Obj.cells #[Value.slice none 0 0, Value.int .i64 0, Value.int .i64 0, Value.slice none 0 0, Value.slice none 0 0, Value.slice none 0 0] 27)
     refine ⟨⟨j+1, D', by go_num, by omega, hide (HB9.out.later LE), HF9, hide (HL9.out.trans LE)⟩, by simp [intOf]; omega⟩
  | error c =>
    refine wp_region_N (fun w' => w'.cell? ⟨gB, 0, none⟩ = some (.slice B1p m1p d1p) /\ w'.cell? ⟨gB, 1, none⟩ = some (.int .i64 D.hor) /\ w'.cell? ⟨gB, 2, none⟩ = some (.int .i64 D.now) /\ w'.cell? ⟨gB, 3, none⟩ = some (.slice B2p m2p d2p) /\ w'.cell? ⟨gB, 4, none⟩ = some (.slice B3p m3p d3p) /\ w'.cell? ⟨gB, 5, none⟩ = some (.slice B4p m4p d4p) /\ w'.cell? ⟨b1, off1 + j * 9, none⟩ = some (.int .i64 o.kind) /\ w'.cell? ⟨b1, off1 + j * 9 + 1, none⟩ = some (.int .i64 o.ord.id) /\ w'.cell? ⟨b1, off1 + j * 9 + 2, none⟩ = some (.int .i64 o.ord.item) /\ w'.cell? ⟨b1, off1 + j * 9 + 3, none⟩ = some (.int .i64 o.ord.due) /\ w'.cell? ⟨b1, off1 + j * 9 + 4, none⟩ = some (.int .i64 o.ord.qty) /\ w'.cell? ⟨b1, off1 + j * 9 + 5, none⟩ = some (.int .i64 o.id) /\ w'.cell? ⟨b1, off1 + j * 9 + 6, none⟩ = some (.int .i64 o.period) /\ w'.cell? ⟨b1, off1 + j * 9 + 7, none⟩ = some (.int .i64 o.qty) /\ w'.cell? ⟨b1, off1 + j * 9 + 8, none⟩ = some (.slice Aq nq cq)) [] hmx (HT1.out _ lt_) (fun hHeld => ?_)
    refine tkB 64 0 ?_
    refine tkB 65 1 ?_
    refine tkB 66 2 ?_
    refine tkB 67 3 ?_
    refine tkB 68 4 ?_
    refine wpAnyN_ready (rs := [5, 9]) (by kernel_rfl) (by simp) ?_
    refine AllReadyN.held rfl (by rfl) (fun K hK => ?_) ?_
    ·go_simp
     refine (HCA.out _ lt_).mono ?_
     rintro e a5 ⟨b5, rfl⟩
     have l5 : Later wr a5 := Later.trans lt_ b5
     refine hK.out _ _ ?_ (fun hHeld => ?_)
     ·exact HT1.out _ lt_
     clear hK K
     try simp only [Act.put, s1_, s2_, s3_]
     refine tkB 63 6 ?_
     refine tkB 70 7 ?_
     refine tkB 71 8 ?_
     refine wpAnyN_ready (rs := [9]) (by kernel_rfl) (by simp) ?_
     refine AllReadyN.held rfl (by rfl) (fun K hK => ?_) AllReadyN.nil
     go_simp
     obtain ⟨g8, hg8⟩ : ∃ g, g = a5.heap.size := ⟨_, rfl⟩
     rw [<- hg8]
     have hgl : wr.heap.size <= g8 := by rw [hg8]; exact l5.size
     have hz8 : Row (a5.alloc (Obj.cells #[Value.slice none 0 0, Value.int .i64 0, Value.int .i64 0, Value.slice none 0 0, Value.slice none 0 0, Value.slice none 0 0] 27)) g8 27 [.slice none 0 0, .int .i64 0, .int .i64 0, .slice none 0 0, .slice none 0 0, .slice none 0 0] := by rw [hg8]; exact Row.new _ _ _
     have q0 := hz8.cell (i := 0) rfl; have qz0 := hz8.frozen 0; have q1 := hz8.cell (i := 1) rfl; have qz1 := hz8.frozen 1; have q2 := hz8.cell (i := 2) rfl; have qz2 := hz8.frozen 2; have q3 := hz8.cell (i := 3) rfl; have qz3 := hz8.frozen 3; have q4 := hz8.cell (i := 4) rfl; have qz4 := hz8.frozen 4; have q5 := hz8.cell (i := 5) rfl; have qz5 := hz8.frozen 5
     have HZ9 := hide hz8
     clear hz8 hg8
     refine hK.out _ _ ?_ (fun hHeld => ?_)
     ·exact HT1.out _ lt_
     clear hK K
     try simp only [Act.put, s1_, s2_, s3_]
     refine wpAnyN_ready (rs := [10]) (by kernel_rfl) (by simp) ?_
     refine AllReadyN.held rfl (by rfl) (fun K hK => ?_) AllReadyN.nil
     go_simp
     refine hK.out _ _ ?_ (fun hHeld => ?_)
     ·exact HT1.out _ (Later.setCell (Later.setCell (Later.setCell (Later.setCell (Later.setCell (Later.setCell (l5.alloc _) hgl _) hgl _) hgl _) hgl _) hgl _) hgl _)
     clear hK K
     try simp only [Act.put, s1_, s2_, s3_]
     refine tkB 9 11 ?_
     refine wpAnyN_done (by kernel_rfl) ?_ _
     clear hHeld
     obtain ⟨W8, hW8⟩ : ∃ W, W = (((((((a5.alloc (Obj.cells #[Value.slice none 0 0, Value.int .i64 0, Value.int .i64 0, Value.slice none 0 0, Value.slice none 0 0, Value.slice none 0 0] 27)).setCell ⟨g8, 0, none⟩ (.slice none 0 0)).setCell ⟨g8, 1, none⟩ (.int .i64 0)).setCell ⟨g8, 2, none⟩ (.int .i64 0)).setCell ⟨g8, 3, none⟩ (.slice none 0 0)).setCell ⟨g8, 4, none⟩ (.slice none 0 0)).setCell ⟨g8, 5, none⟩ (.slice none 0 0)) := ⟨_, rfl⟩
     have oo8 : Only g8 (a5.alloc (Obj.cells #[Value.slice none 0 0, Value.int .i64 0, Value.int .i64 0, Value.slice none 0 0, Value.slice none 0 0, Value.slice none 0 0] 27)) W8 := by rw [hW8]; exact only6 g8 (.slice none 0 0) (.int .i64 0) (.int .i64 0) (.slice none 0 0) (.slice none 0 0) (.slice none 0 0)
     have R8 : Hid (Row W8 g8 27 [.slice none 0 0, .int .i64 0, .int .i64 0, .slice none 0 0, .slice none 0 0, .slice none 0 0]) := hide (by rw [hW8]; exact HZ9.out.put6 _ _ _ _ _ _)
     have L8 : Hid (Later wr W8) := hide (Later.only (l5.alloc _) oo8 hgl)
     rw [<- hW8]
     clear hW8 oo8 q0 q1 q2 q3 q4 q5 qz0 qz1 qz2 qz3 qz4 qz5 l5 b5 HZ9
     have rp8 := HRp.out.later L8.out
     have t4 : (c == 0) = false := by simpa using apply_err HR.out
     clear rp8
     have HB9 : Hid (BkAt w.heap.size W8 gB D) := hide (HB.out.later L8.out)
     have HL9 : Hid (Later w W8) := hide (HL.out.trans L8.out)
     have HF9 := HF
     go_upto_region 18 with fail
     clear t4
     obtain ⟨B1r, B2r, B3r, B4r, m1r, m2r, m3r, m4r, d1r, d2r, d3r, d4r, hRr, hKr⟩ := HB9.out
     have RR := hide hRr; have KR := hide hKr
     clear hRr hKr
     by_cases late : 39 < D.now
     ·have t5 : decide (39 < D.now) = true := by simpa using late
      have HCM : Hid (applyV D (mkCom 39 [0]) = .error 13) := hide (by have h := HF9.out.com; rw [if_pos late] at h; exact h)
      have HCC : Hid (applyV D (mkCap 39 1) = .error 13) := hide (by have h := HF9.out.cap; rw [if_pos late] at h; exact h)
      clear late
      have HSQ : Hid (Sq 1 iCells (W8.alloc (Obj.cells #[Value.int .i64 0] 3)) (.slice (some ⟨W8.heap.size, 0, none⟩) 1 1) [0]) := hide (sq_one (Row.new W8 3 [.int .i64 0]))
      have HLA : Hid (Later W8 (W8.alloc (Obj.cells #[Value.int .i64 0] 3))) := hide ((Later.refl _).alloc _)
      have HA18 : Hid (∀ W, BookIn W (.slice B1r m1r d1r) (.slice B2r m2r d2r) (.slice B3r m3r d3r) (.slice B4r m4r d4r) D -> Sq 1 iCells W (.slice (some ⟨W8.heap.size, 0, none⟩) 1 1) [0] -> Calls Tryz.prog 12 #[.agg #[.slice B1r m1r d1r, .int .i64 D.hor, .int .i64 D.now, .slice B2r m2r d2r, .slice B3r m3r d3r, .slice B4r m4r d4r], .agg #[.int .i64 5, .int .i64 0, .int .i64 0, .int .i64 0, .int .i64 0, .int .i64 0, .int .i64 39, .int .i64 0, .slice (some ⟨W8.heap.size, 0, none⟩) 1 1]] W (CauP W (.error 13))) := hide (fun W hB hQ => by
       have h2 := apply_calls W B1r B2r B3r B4r (some ⟨W8.heap.size, 0, none⟩) m1r m2r m3r m4r 1 d1r d2r d3r d4r 1 D (mkCom 39 [0]) hB fit0 hQ (by decide)
       rw [HCM.out] at h2; exact h2)
      have HA19 : Hid (∀ W, BookIn W (.slice B1r m1r d1r) (.slice B2r m2r d2r) (.slice B3r m3r d3r) (.slice B4r m4r d4r) D -> Sq 1 iCells W (.slice none 0 0) [] -> Calls Tryz.prog 12 #[.agg #[.slice B1r m1r d1r, .int .i64 D.hor, .int .i64 D.now, .slice B2r m2r d2r, .slice B3r m3r d3r, .slice B4r m4r d4r], .agg #[.int .i64 3, .int .i64 0, .int .i64 0, .int .i64 0, .int .i64 0, .int .i64 0, .int .i64 39, .int .i64 1, .slice none 0 0]] W (CauP W (.error 13))) := hide (fun W hB hQ => by
       have h2 := apply_calls W B1r B2r B3r B4r none m1r m2r m3r m4r 0 d1r d2r d3r d4r 0 D (mkCap 39 1) hB fit0 hQ (by decide)
       rw [HCC.out] at h2; exact h2)
      have x0 := (RR.out.later (Later.refl _)).cell (i := 0) rfl; have x1 := (RR.out.later (Later.refl _)).cell (i := 1) rfl; have x2 := (RR.out.later (Later.refl _)).cell (i := 2) rfl; have x3 := (RR.out.later (Later.refl _)).cell (i := 3) rfl; have x4 := (RR.out.later (Later.refl _)).cell (i := 4) rfl; have x5 := (RR.out.later (Later.refl _)).cell (i := 5) rfl
      have y0 := (RR.out.later HLA.out).cell (i := 0) rfl; have y1 := (RR.out.later HLA.out).cell (i := 1) rfl; have y2 := (RR.out.later HLA.out).cell (i := 2) rfl; have y3 := (RR.out.later HLA.out).cell (i := 3) rfl; have y4 := (RR.out.later HLA.out).cell (i := 4) rfl; have y5 := (RR.out.later HLA.out).cell (i := 5) rfl
      go_upto_region 19 with (go_at_call 12; (refine (HA18.out _ ((KR.out.later HLA.out).book (fit_of_may HF9.out.may)) HSQ.out).mono ?_); rintro e a18 ⟨b18, rfl⟩)
      obtain ⟨W10, hW10⟩ : ∃ W10, W10 = a18.alloc (Obj.cells #[Value.slice none 0 0, Value.int .i64 0, Value.int .i64 0, Value.slice none 0 0, Value.slice none 0 0, Value.slice none 0 0] 27) := ⟨_, rfl⟩
      obtain ⟨g10, hg10⟩ : ∃ g10, g10 = a18.heap.size := ⟨_, rfl⟩
      have bW10 : Later a18 W10 := by rw [hW10]; exact (Later.refl _).alloc _
      have rg10 : Row W10 g10 27 [.slice none 0 0, .int .i64 0, .int .i64 0, .slice none 0 0, .slice none 0 0, .slice none 0 0] := by rw [hW10, hg10]; exact Row.new _ _ _
      rw [<- hW10, <- hg10]
      have L10 := hide (HLA.out.trans (b18.trans bW10))
      clear hW10 hg10 b18 bW10 rg10 x0 x1 x2 x3 x4 x5 y0 y1 y2 y3 y4 y5
      have x0 := (RR.out.later L10.out).cell (i := 0) rfl; have x1 := (RR.out.later L10.out).cell (i := 1) rfl; have x2 := (RR.out.later L10.out).cell (i := 2) rfl; have x3 := (RR.out.later L10.out).cell (i := 3) rfl; have x4 := (RR.out.later L10.out).cell (i := 4) rfl; have x5 := (RR.out.later L10.out).cell (i := 5) rfl
      go_wp2_with (go_at_call 12; (refine (HA19.out _ ((KR.out.later L10.out).book (fit_of_may HF9.out.may)) (Sq.nil _ _ _)).mono ?_); rintro e a19 ⟨b19, rfl⟩; have z2 := ((RR.out.later (L10.out.trans b19)).alloc (Obj.cells #[Value.slice none 0 0, Value.int .i64 0, Value.int .i64 0, Value.slice none 0 0, Value.slice none 0 0, Value.slice none 0 0] 27)).cell (i := 2) rfl)
      have LE := (L10.out.trans b19).alloc (Obj.cells #[Value.slice none 0 0, Value.int .i64 0, Value.int .i64 0, Value.slice none 0 0, Value.slice none 0 0, Value.slice none 0 0] 27)
      refine ⟨⟨j+1, D, by go_num, by omega, hide (HB9.out.later LE), HF9, hide (HL9.out.trans LE)⟩, by simp [intOf]; omega⟩
     ·have t5 : decide (39 < D.now) = false := by simpa using late
      have HCM : Hid (applyV D (mkCom 39 [0]) = .error 9) := hide (by have h := HF9.out.com; rw [if_neg late] at h; exact h)
      have HCC : Hid (applyV D (mkCap 39 1) = .error 9) := hide (by have h := HF9.out.cap; rw [if_neg late] at h; exact h)
      clear late
      have HSQ : Hid (Sq 1 iCells (W8.alloc (Obj.cells #[Value.int .i64 0] 3)) (.slice (some ⟨W8.heap.size, 0, none⟩) 1 1) [0]) := hide (sq_one (Row.new W8 3 [.int .i64 0]))
      have HLA : Hid (Later W8 (W8.alloc (Obj.cells #[Value.int .i64 0] 3))) := hide ((Later.refl _).alloc _)
      have HA18 : Hid (∀ W, BookIn W (.slice B1r m1r d1r) (.slice B2r m2r d2r) (.slice B3r m3r d3r) (.slice B4r m4r d4r) D -> Sq 1 iCells W (.slice (some ⟨W8.heap.size, 0, none⟩) 1 1) [0] -> Calls Tryz.prog 12 #[.agg #[.slice B1r m1r d1r, .int .i64 D.hor, .int .i64 D.now, .slice B2r m2r d2r, .slice B3r m3r d3r, .slice B4r m4r d4r], .agg #[.int .i64 5, .int .i64 0, .int .i64 0, .int .i64 0, .int .i64 0, .int .i64 0, .int .i64 39, .int .i64 0, .slice (some ⟨W8.heap.size, 0, none⟩) 1 1]] W (CauP W (.error 9))) := hide (fun W hB hQ => by
       have h2 := apply_calls W B1r B2r B3r B4r (some ⟨W8.heap.size, 0, none⟩) m1r m2r m3r m4r 1 d1r d2r d3r d4r 1 D (mkCom 39 [0]) hB fit0 hQ (by decide)
       rw [HCM.out] at h2; exact h2)
      have HA19 : Hid (∀ W, BookIn W (.slice B1r m1r d1r) (.slice B2r m2r d2r) (.slice B3r m3r d3r) (.slice B4r m4r d4r) D -> Sq 1 iCells W (.slice none 0 0) [] -> Calls Tryz.prog 12 #[.agg #[.slice B1r m1r d1r, .int .i64 D.hor, .int .i64 D.now, .slice B2r m2r d2r, .slice B3r m3r d3r, .slice B4r m4r d4r], .agg #[.int .i64 3, .int .i64 0, .int .i64 0, .int .i64 0, .int .i64 0, .int .i64 0, .int .i64 39, .int .i64 1, .slice none 0 0]] W (CauP W (.error 9))) := hide (fun W hB hQ => by
       have h2 := apply_calls W B1r B2r B3r B4r none m1r m2r m3r m4r 0 d1r d2r d3r d4r 0 D (mkCap 39 1) hB fit0 hQ (by decide)
       rw [HCC.out] at h2; exact h2)
      have x0 := (RR.out.later (Later.refl _)).cell (i := 0) rfl; have x1 := (RR.out.later (Later.refl _)).cell (i := 1) rfl; have x2 := (RR.out.later (Later.refl _)).cell (i := 2) rfl; have x3 := (RR.out.later (Later.refl _)).cell (i := 3) rfl; have x4 := (RR.out.later (Later.refl _)).cell (i := 4) rfl; have x5 := (RR.out.later (Later.refl _)).cell (i := 5) rfl
      have y0 := (RR.out.later HLA.out).cell (i := 0) rfl; have y1 := (RR.out.later HLA.out).cell (i := 1) rfl; have y2 := (RR.out.later HLA.out).cell (i := 2) rfl; have y3 := (RR.out.later HLA.out).cell (i := 3) rfl; have y4 := (RR.out.later HLA.out).cell (i := 4) rfl; have y5 := (RR.out.later HLA.out).cell (i := 5) rfl
      go_upto_region 19 with (go_at_call 12; (refine (HA18.out _ ((KR.out.later HLA.out).book (fit_of_may HF9.out.may)) HSQ.out).mono ?_); rintro e a18 ⟨b18, rfl⟩)
      obtain ⟨W10, hW10⟩ : ∃ W10, W10 = a18.alloc (Obj.cells #[Value.slice none 0 0, Value.int .i64 0, Value.int .i64 0, Value.slice none 0 0, Value.slice none 0 0, Value.slice none 0 0] 27) := ⟨_, rfl⟩
      obtain ⟨g10, hg10⟩ : ∃ g10, g10 = a18.heap.size := ⟨_, rfl⟩
      have bW10 : Later a18 W10 := by rw [hW10]; exact (Later.refl _).alloc _
      have rg10 : Row W10 g10 27 [.slice none 0 0, .int .i64 0, .int .i64 0, .slice none 0 0, .slice none 0 0, .slice none 0 0] := by rw [hW10, hg10]; exact Row.new _ _ _
      rw [<- hW10, <- hg10]
      have L10 := hide (HLA.out.trans (b18.trans bW10))
      clear hW10 hg10 b18 bW10 rg10 x0 x1 x2 x3 x4 x5 y0 y1 y2 y3 y4 y5
      have x0 := (RR.out.later L10.out).cell (i := 0) rfl; have x1 := (RR.out.later L10.out).cell (i := 1) rfl; have x2 := (RR.out.later L10.out).cell (i := 2) rfl; have x3 := (RR.out.later L10.out).cell (i := 3) rfl; have x4 := (RR.out.later L10.out).cell (i := 4) rfl; have x5 := (RR.out.later L10.out).cell (i := 5) rfl
      go_wp2_with (go_at_call 12; (refine (HA19.out _ ((KR.out.later L10.out).book (fit_of_may HF9.out.may)) (Sq.nil _ _ _)).mono ?_); rintro e a19 ⟨b19, rfl⟩; have z2 := ((RR.out.later (L10.out.trans b19)).alloc (Obj.cells #[Value.slice none 0 0, Value.int .i64 0, Value.int .i64 0, Value.slice none 0 0, Value.slice none 0 0, Value.slice none 0 0] 27)).cell (i := 2) rfl)
      have LE := (L10.out.trans b19).alloc (Obj.cells #[Value.slice none 0 0, Value.int .i64 0, Value.int .i64 0, Value.slice none 0 0, Value.slice none 0 0, Value.slice none 0 0] 27)
      refine ⟨⟨j+1, D, by go_num, by omega, hide (HB9.out.later LE), HF9, hide (HL9.out.trans LE)⟩, by simp [intOf]; omega⟩
    refine AllReadyN.held rfl (by rfl) (fun K hK => ?_) AllReadyN.nil
    go_simp
    obtain ⟨g8, hg8⟩ : ∃ g, g = wr.heap.size := ⟨_, rfl⟩
    rw [<- hg8]
    have hgl : wr.heap.size <= g8 := by rw [hg8]; exact Nat.le_refl _
    have HZ8 : Hid (Row (wr.drew.alloc (Obj.cells #[Value.slice none 0 0, Value.int .i64 0, Value.int .i64 0, Value.slice none 0 0, Value.slice none 0 0, Value.slice none 0 0] 27)) g8 27 [.slice none 0 0, .int .i64 0, .int .i64 0, .slice none 0 0, .slice none 0 0, .slice none 0 0]) := hide (by rw [hg8]; exact Row.new wr.drew _ _)
    clear hg8
    refine hK.out _ _ ?_ (fun hHeld => ?_)
    ·exact HT1.out _ lt_
    clear hK K
    try simp only [Act.put, s1_, s2_, s3_]
    refine wpAnyN_ready (rs := [5]) (by kernel_rfl) (by simp) ?_
    refine AllReadyN.held rfl (by rfl) (fun K hK => ?_) AllReadyN.nil
    go_simp
    refine (HCA.out _ lt_).mono ?_
    rintro e a5 ⟨b5, rfl⟩
    have hz8 := HZ8.out.later b5
    have q0 := hz8.cell (i := 0) rfl; have qz0 := hz8.frozen 0; have q1 := hz8.cell (i := 1) rfl; have qz1 := hz8.frozen 1; have q2 := hz8.cell (i := 2) rfl; have qz2 := hz8.frozen 2; have q3 := hz8.cell (i := 3) rfl; have qz3 := hz8.frozen 3; have q4 := hz8.cell (i := 4) rfl; have qz4 := hz8.frozen 4; have q5 := hz8.cell (i := 5) rfl; have qz5 := hz8.frozen 5
    have HZ9 := hide hz8
    clear hz8
    have l5 : Later wr a5 := Later.trans lt_ b5
    refine hK.out _ _ ?_ (fun hHeld => ?_)
    ·exact HT1.out _ lt_
    clear hK K
    try simp only [Act.put, s1_, s2_, s3_]
    refine tkB 63 6 ?_
    refine tkB 70 7 ?_
    refine tkB 71 8 ?_
    refine wpAnyN_ready (rs := [10]) (by kernel_rfl) (by simp) ?_
    refine AllReadyN.held rfl (by rfl) (fun K hK => ?_) AllReadyN.nil
    go_simp
    refine hK.out _ _ ?_ (fun hHeld => ?_)
    ·exact HT1.out _ (Later.setCell (Later.setCell (Later.setCell (Later.setCell (Later.setCell (Later.setCell l5 hgl _) hgl _) hgl _) hgl _) hgl _) hgl _)
    clear hK K
    try simp only [Act.put, s1_, s2_, s3_]
    refine tkB 9 11 ?_
    refine wpAnyN_done (by kernel_rfl) ?_ _
    clear hHeld
    obtain ⟨W8, hW8⟩ : ∃ W, W = ((((((a5.setCell ⟨g8, 0, none⟩ (.slice none 0 0)).setCell ⟨g8, 1, none⟩ (.int .i64 0)).setCell ⟨g8, 2, none⟩ (.int .i64 0)).setCell ⟨g8, 3, none⟩ (.slice none 0 0)).setCell ⟨g8, 4, none⟩ (.slice none 0 0)).setCell ⟨g8, 5, none⟩ (.slice none 0 0)) := ⟨_, rfl⟩
    have oo8 : Only g8 a5 W8 := by rw [hW8]; exact only6 g8 (.slice none 0 0) (.int .i64 0) (.int .i64 0) (.slice none 0 0) (.slice none 0 0) (.slice none 0 0)
    have R8 : Hid (Row W8 g8 27 [.slice none 0 0, .int .i64 0, .int .i64 0, .slice none 0 0, .slice none 0 0, .slice none 0 0]) := hide (by rw [hW8]; exact HZ9.out.put6 _ _ _ _ _ _)
    have L8 : Hid (Later wr W8) := hide (Later.only l5 oo8 hgl)
    rw [<- hW8]
    clear hW8 oo8 q0 q1 q2 q3 q4 q5 qz0 qz1 qz2 qz3 qz4 qz5 l5 b5 HZ9
    have rp8 := HRp.out.later L8.out
    have t4 : (c == 0) = false := by simpa using apply_err HR.out
    clear rp8
    have HB9 : Hid (BkAt w.heap.size W8 gB D) := hide (HB.out.later L8.out)
    have HL9 : Hid (Later w W8) := hide (HL.out.trans L8.out)
    have HF9 := HF
    go_upto_region 18 with fail
    clear t4
    obtain ⟨B1r, B2r, B3r, B4r, m1r, m2r, m3r, m4r, d1r, d2r, d3r, d4r, hRr, hKr⟩ := HB9.out
    have RR := hide hRr; have KR := hide hKr
    clear hRr hKr
    by_cases late : 39 < D.now
    ·have t5 : decide (39 < D.now) = true := by simpa using late
     have HCM : Hid (applyV D (mkCom 39 [0]) = .error 13) := hide (by have h := HF9.out.com; rw [if_pos late] at h; exact h)
     have HCC : Hid (applyV D (mkCap 39 1) = .error 13) := hide (by have h := HF9.out.cap; rw [if_pos late] at h; exact h)
     clear late
     have HSQ : Hid (Sq 1 iCells (W8.alloc (Obj.cells #[Value.int .i64 0] 3)) (.slice (some ⟨W8.heap.size, 0, none⟩) 1 1) [0]) := hide (sq_one (Row.new W8 3 [.int .i64 0]))
     have HLA : Hid (Later W8 (W8.alloc (Obj.cells #[Value.int .i64 0] 3))) := hide ((Later.refl _).alloc _)
     have HA18 : Hid (∀ W, BookIn W (.slice B1r m1r d1r) (.slice B2r m2r d2r) (.slice B3r m3r d3r) (.slice B4r m4r d4r) D -> Sq 1 iCells W (.slice (some ⟨W8.heap.size, 0, none⟩) 1 1) [0] -> Calls Tryz.prog 12 #[.agg #[.slice B1r m1r d1r, .int .i64 D.hor, .int .i64 D.now, .slice B2r m2r d2r, .slice B3r m3r d3r, .slice B4r m4r d4r], .agg #[.int .i64 5, .int .i64 0, .int .i64 0, .int .i64 0, .int .i64 0, .int .i64 0, .int .i64 39, .int .i64 0, .slice (some ⟨W8.heap.size, 0, none⟩) 1 1]] W (CauP W (.error 13))) := hide (fun W hB hQ => by
      have h2 := apply_calls W B1r B2r B3r B4r (some ⟨W8.heap.size, 0, none⟩) m1r m2r m3r m4r 1 d1r d2r d3r d4r 1 D (mkCom 39 [0]) hB fit0 hQ (by decide)
      rw [HCM.out] at h2; exact h2)
     have HA19 : Hid (∀ W, BookIn W (.slice B1r m1r d1r) (.slice B2r m2r d2r) (.slice B3r m3r d3r) (.slice B4r m4r d4r) D -> Sq 1 iCells W (.slice none 0 0) [] -> Calls Tryz.prog 12 #[.agg #[.slice B1r m1r d1r, .int .i64 D.hor, .int .i64 D.now, .slice B2r m2r d2r, .slice B3r m3r d3r, .slice B4r m4r d4r], .agg #[.int .i64 3, .int .i64 0, .int .i64 0, .int .i64 0, .int .i64 0, .int .i64 0, .int .i64 39, .int .i64 1, .slice none 0 0]] W (CauP W (.error 13))) := hide (fun W hB hQ => by
      have h2 := apply_calls W B1r B2r B3r B4r none m1r m2r m3r m4r 0 d1r d2r d3r d4r 0 D (mkCap 39 1) hB fit0 hQ (by decide)
      rw [HCC.out] at h2; exact h2)
     have x0 := (RR.out.later (Later.refl _)).cell (i := 0) rfl; have x1 := (RR.out.later (Later.refl _)).cell (i := 1) rfl; have x2 := (RR.out.later (Later.refl _)).cell (i := 2) rfl; have x3 := (RR.out.later (Later.refl _)).cell (i := 3) rfl; have x4 := (RR.out.later (Later.refl _)).cell (i := 4) rfl; have x5 := (RR.out.later (Later.refl _)).cell (i := 5) rfl
     have y0 := (RR.out.later HLA.out).cell (i := 0) rfl; have y1 := (RR.out.later HLA.out).cell (i := 1) rfl; have y2 := (RR.out.later HLA.out).cell (i := 2) rfl; have y3 := (RR.out.later HLA.out).cell (i := 3) rfl; have y4 := (RR.out.later HLA.out).cell (i := 4) rfl; have y5 := (RR.out.later HLA.out).cell (i := 5) rfl
     go_upto_region 19 with (go_at_call 12; (refine (HA18.out _ ((KR.out.later HLA.out).book (fit_of_may HF9.out.may)) HSQ.out).mono ?_); rintro e a18 ⟨b18, rfl⟩)
     obtain ⟨W10, hW10⟩ : ∃ W10, W10 = a18.alloc (Obj.cells #[Value.slice none 0 0, Value.int .i64 0, Value.int .i64 0, Value.slice none 0 0, Value.slice none 0 0, Value.slice none 0 0] 27) := ⟨_, rfl⟩
     obtain ⟨g10, hg10⟩ : ∃ g10, g10 = a18.heap.size := ⟨_, rfl⟩
     have bW10 : Later a18 W10 := by rw [hW10]; exact (Later.refl _).alloc _
     have rg10 : Row W10 g10 27 [.slice none 0 0, .int .i64 0, .int .i64 0, .slice none 0 0, .slice none 0 0, .slice none 0 0] := by rw [hW10, hg10]; exact Row.new _ _ _
     rw [<- hW10, <- hg10]
     have L10 := hide (HLA.out.trans (b18.trans bW10))
     clear hW10 hg10 b18 bW10 rg10 x0 x1 x2 x3 x4 x5 y0 y1 y2 y3 y4 y5
     have x0 := (RR.out.later L10.out).cell (i := 0) rfl; have x1 := (RR.out.later L10.out).cell (i := 1) rfl; have x2 := (RR.out.later L10.out).cell (i := 2) rfl; have x3 := (RR.out.later L10.out).cell (i := 3) rfl; have x4 := (RR.out.later L10.out).cell (i := 4) rfl; have x5 := (RR.out.later L10.out).cell (i := 5) rfl
     go_wp2_with (go_at_call 12; (refine (HA19.out _ ((KR.out.later L10.out).book (fit_of_may HF9.out.may)) (Sq.nil _ _ _)).mono ?_); rintro e a19 ⟨b19, rfl⟩; have z2 := ((RR.out.later (L10.out.trans b19)).alloc (Obj.cells #[Value.slice none 0 0, Value.int .i64 0, Value.int .i64 0, Value.slice none 0 0, Value.slice none 0 0, Value.slice none 0 0] 27)).cell (i := 2) rfl)
     have LE := (L10.out.trans b19).alloc (Obj.cells #[Value.slice none 0 0, Value.int .i64 0, Value.int .i64 0, Value.slice none 0 0, Value.slice none 0 0, Value.slice none 0 0] 27)
     refine ⟨⟨j+1, D, by go_num, by omega, hide (HB9.out.later LE), HF9, hide (HL9.out.trans LE)⟩, by simp [intOf]; omega⟩
    ·have t5 : decide (39 < D.now) = false := by simpa using late
     have HCM : Hid (applyV D (mkCom 39 [0]) = .error 9) := hide (by have h := HF9.out.com; rw [if_neg late] at h; exact h)
     have HCC : Hid (applyV D (mkCap 39 1) = .error 9) := hide (by have h := HF9.out.cap; rw [if_neg late] at h; exact h)
     clear late
     have HSQ : Hid (Sq 1 iCells (W8.alloc (Obj.cells #[Value.int .i64 0] 3)) (.slice (some ⟨W8.heap.size, 0, none⟩) 1 1) [0]) := hide (sq_one (Row.new W8 3 [.int .i64 0]))
     have HLA : Hid (Later W8 (W8.alloc (Obj.cells #[Value.int .i64 0] 3))) := hide ((Later.refl _).alloc _)
     have HA18 : Hid (∀ W, BookIn W (.slice B1r m1r d1r) (.slice B2r m2r d2r) (.slice B3r m3r d3r) (.slice B4r m4r d4r) D -> Sq 1 iCells W (.slice (some ⟨W8.heap.size, 0, none⟩) 1 1) [0] -> Calls Tryz.prog 12 #[.agg #[.slice B1r m1r d1r, .int .i64 D.hor, .int .i64 D.now, .slice B2r m2r d2r, .slice B3r m3r d3r, .slice B4r m4r d4r], .agg #[.int .i64 5, .int .i64 0, .int .i64 0, .int .i64 0, .int .i64 0, .int .i64 0, .int .i64 39, .int .i64 0, .slice (some ⟨W8.heap.size, 0, none⟩) 1 1]] W (CauP W (.error 9))) := hide (fun W hB hQ => by
      have h2 := apply_calls W B1r B2r B3r B4r (some ⟨W8.heap.size, 0, none⟩) m1r m2r m3r m4r 1 d1r d2r d3r d4r 1 D (mkCom 39 [0]) hB fit0 hQ (by decide)
      rw [HCM.out] at h2; exact h2)
     have HA19 : Hid (∀ W, BookIn W (.slice B1r m1r d1r) (.slice B2r m2r d2r) (.slice B3r m3r d3r) (.slice B4r m4r d4r) D -> Sq 1 iCells W (.slice none 0 0) [] -> Calls Tryz.prog 12 #[.agg #[.slice B1r m1r d1r, .int .i64 D.hor, .int .i64 D.now, .slice B2r m2r d2r, .slice B3r m3r d3r, .slice B4r m4r d4r], .agg #[.int .i64 3, .int .i64 0, .int .i64 0, .int .i64 0, .int .i64 0, .int .i64 0, .int .i64 39, .int .i64 1, .slice none 0 0]] W (CauP W (.error 9))) := hide (fun W hB hQ => by
      have h2 := apply_calls W B1r B2r B3r B4r none m1r m2r m3r m4r 0 d1r d2r d3r d4r 0 D (mkCap 39 1) hB fit0 hQ (by decide)
      rw [HCC.out] at h2; exact h2)
     have x0 := (RR.out.later (Later.refl _)).cell (i := 0) rfl; have x1 := (RR.out.later (Later.refl _)).cell (i := 1) rfl; have x2 := (RR.out.later (Later.refl _)).cell (i := 2) rfl; have x3 := (RR.out.later (Later.refl _)).cell (i := 3) rfl; have x4 := (RR.out.later (Later.refl _)).cell (i := 4) rfl; have x5 := (RR.out.later (Later.refl _)).cell (i := 5) rfl
     have y0 := (RR.out.later HLA.out).cell (i := 0) rfl; have y1 := (RR.out.later HLA.out).cell (i := 1) rfl; have y2 := (RR.out.later HLA.out).cell (i := 2) rfl; have y3 := (RR.out.later HLA.out).cell (i := 3) rfl; have y4 := (RR.out.later HLA.out).cell (i := 4) rfl; have y5 := (RR.out.later HLA.out).cell (i := 5) rfl
     go_upto_region 19 with (go_at_call 12; (refine (HA18.out _ ((KR.out.later HLA.out).book (fit_of_may HF9.out.may)) HSQ.out).mono ?_); rintro e a18 ⟨b18, rfl⟩)
     obtain ⟨W10, hW10⟩ : ∃ W10, W10 = a18.alloc (Obj.cells #[Value.slice none 0 0, Value.int .i64 0, Value.int .i64 0, Value.slice none 0 0, Value.slice none 0 0, Value.slice none 0 0] 27) := ⟨_, rfl⟩
     obtain ⟨g10, hg10⟩ : ∃ g10, g10 = a18.heap.size := ⟨_, rfl⟩
     have bW10 : Later a18 W10 := by rw [hW10]; exact (Later.refl _).alloc _
     have rg10 : Row W10 g10 27 [.slice none 0 0, .int .i64 0, .int .i64 0, .slice none 0 0, .slice none 0 0, .slice none 0 0] := by rw [hW10, hg10]; exact Row.new _ _ _
     rw [<- hW10, <- hg10]
     have L10 := hide (HLA.out.trans (b18.trans bW10))
     clear hW10 hg10 b18 bW10 rg10 x0 x1 x2 x3 x4 x5 y0 y1 y2 y3 y4 y5
     have x0 := (RR.out.later L10.out).cell (i := 0) rfl; have x1 := (RR.out.later L10.out).cell (i := 1) rfl; have x2 := (RR.out.later L10.out).cell (i := 2) rfl; have x3 := (RR.out.later L10.out).cell (i := 3) rfl; have x4 := (RR.out.later L10.out).cell (i := 4) rfl; have x5 := (RR.out.later L10.out).cell (i := 5) rfl
     go_wp2_with (go_at_call 12; (refine (HA19.out _ ((KR.out.later L10.out).book (fit_of_may HF9.out.may)) (Sq.nil _ _ _)).mono ?_); rintro e a19 ⟨b19, rfl⟩; have z2 := ((RR.out.later (L10.out.trans b19)).alloc (Obj.cells #[Value.slice none 0 0, Value.int .i64 0, Value.int .i64 0, Value.slice none 0 0, Value.slice none 0 0, Value.slice none 0 0] 27)).cell (i := 2) rfl)
     have LE := (L10.out.trans b19).alloc (Obj.cells #[Value.slice none 0 0, Value.int .i64 0, Value.int .i64 0, Value.slice none 0 0, Value.slice none 0 0, Value.slice none 0 0] 27)
     refine ⟨⟨j+1, D, by go_num, by omega, hide (HB9.out.later LE), HF9, hide (HL9.out.trans LE)⟩, by simp [intOf]; omega⟩
end Go.Proofs.YtncbebfhakcgdaaGreat
