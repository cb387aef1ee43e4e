/- BookOrders: the walk. -/
import Derived.Test.YtncbebfhakcgdaaGreatO29
import Derived.Test.YtncbebfhakcgdaaGreatO7
import Derived.Test.YtncbebfhakcgdaaGreatO16
set_option linter.unusedVariables false
set_option linter.unusedSimpArgs false
set_option maxRecDepth 100000
namespace Go.Proofs.YtncbebfhakcgdaaGreat
open Go.RowKit Go.Shelf
attribute [local go_sem ↓] Go.wp_at_zero Go.wp_at_succ
def ArgOrds (w : World) (v : Value) : Prop := ∃ A n c l, v = .slice A n c /\ Sq 4 oCells w (.slice A n c) l /\ ∀ o ∈ l, o.fit
theorem ords_start (items : List PItem) (hor : Int) (h : MayP (newD items hor)) : OrdsP items hor [] (newD items hor) := ⟨h, rfl, rfl, fun x => Iff.rfl⟩
theorem take_snoc {α : Type} {l : List α} {j : Nat} {o : α} (h : l[j]? = some o) : l.take (j+1) = l.take j ++ [o] := by rw [List.take_add_one, h]; rfl
theorem drop_rev {α : Type} {l : List α} {j : Nat} {o : α} (h : l[j]? = some o) : (l.drop j).reverse = (l.drop (j+1)).reverse ++ [o] := by
 have hj := (List.getElem?_eq_some_iff.1 h).1
 have e : l.drop j = o :: l.drop (j+1) := by
  rw [List.drop_eq_getElem_cons hj]
  have := List.getElem?_eq_getElem hj
  rw [h] at this; injection this with this; rw [this]
 rw [e, List.reverse_cons]
theorem ids_apart {l : List POrd} (h : l.Pairwise fun a b => a.id ≠ b.id) {j : Nat} {o : POrd} (ho : l[j]? = some o) : ∀ x ∈ (l.drop (j+1)).reverse, x.id ≠ o.id := by
 intro x hx
 have hx2 : x ∈ l.drop (j+1) := List.mem_reverse.1 hx
 have e := take_drop_at ho
 rw [e, List.pairwise_append] at h
 have h2 := (List.pairwise_cons.1 h.2.1).1 x hx2
 exact fun e2 => h2 e2.symm
set_option maxHeartbeats 2000000 in
theorem bookorders_walk (w : World) (v : Value) (h0 : ArgOrds w v) :
 Calls Tryz.prog 8 #[v] w (RetV w (.bool true)) := by
 obtain ⟨As, n, cs, l, rfl, hq, hfits⟩ := h0
 have HFT := hide hfits; have HQ := hide hq
 have hnl : n = l.length := by
  obtain ⟨_, _, _, e, e2, -⟩ := hq.form
  injection e with _ e3 _; omega
 have HNL := hide hnl
 obtain ⟨D1, hD1⟩ : ∃ D, D = newD (itemsN 1) 2 := ⟨_, rfl⟩
 have HS0 : Hid (OrdsP (itemsN 1) 2 [] D1) := hide (by rw [hD1]; exact ords_start _ _ (itm_may _ (by omega) (by omega)))
 have HN1 : Hid (∀ W A n c, Its 12 W (.slice A n c) (itemsN 1) -> Calls Tryz.prog 14 #[.slice A n c, .int .i64 2] W (CauP W (.ok D1))) := hide (fun W A n c hI => by
  have h2 := new_calls W A n c (itemsN 1) 2 hI (by unfold itemsN; rw [List.length_replicate]; omega) (by unfold IFit; omega)
  rw [new_items, <- hD1] at h2; exact h2)
 clear hq hfits hnl hD1
 go_enter Tryz.func8, Tryz.ntmps8
 by_cases h30 : 30 < n
 ·have t1 : decide ((30 : Int) < (n : Int)) = true := by simp; omega
  go_wp2_with (go_at_call 9; (with_reducible refine (awake20_calls _).mono ?_); rintro e a0 ⟨rfl, b0⟩)
  go_ret
  exact ⟨rfl, b0⟩
 have t1 : decide ((30 : Int) < (n : Int)) = false := by simp; omega
 go_upto_region 6 with (first | (go_at_call 9; (with_reducible refine (awake20_calls _).mono ?_); rintro e a0 ⟨rfl, b0⟩) | (go_at_call 24; (with_reducible refine (items20_calls _ 1 (by omega)).mono ?_); rintro e ai ⟨Ai, ni, ci, rfl, hi, bi⟩) | (go_at_call 14; (refine (HN1.out _ _ _ _ hi).mono ?_); rintro e a1 h1; unfold CauP at h1; dsimp only at h1; obtain ⟨b1, hm1, B1a, B2a, B3a, B4a, m1a, m2a, m3a, m4a, d1a, d2a, d3a, d4a, rfl, hk1⟩ := h1))
 clear t1
 obtain ⟨W1, hW1⟩ : ∃ W1, W1 = a1.alloc (Obj.cells #[Value.slice B1a m1a d1a, Value.int .i64 D1.hor, Value.int .i64 D1.now, Value.slice B2a m2a d2a, Value.slice B3a m3a d3a, Value.slice B4a m4a d4a] 27) := ⟨_, rfl⟩
 obtain ⟨gA, hgA⟩ : ∃ gA, gA = a1.heap.size := ⟨_, rfl⟩
 have bW1 : Later a1 W1 := by rw [hW1]; exact (Later.refl _).alloc _
 have rgA : Row W1 gA 27 [.slice B1a m1a d1a, .int .i64 D1.hor, .int .i64 D1.now, .slice B2a m2a d2a, .slice B3a m3a d3a, .slice B4a m4a d4a] := by rw [hW1, hgA]; exact Row.new _ _ _
 rw [<- hW1, <- hgA]
 have HL1 := hide (b0.trans (bi.trans (b1.trans bW1)))
 have HA1 : Hid (BkAt w.heap.size W1 gA D1) := hide ⟨B1a, B2a, B3a, B4a, m1a, m2a, m3a, m4a, d1a, d2a, d3a, d4a, rgA, (hk1.weaken (b0.trans bi).size).later bW1⟩
 have HGA : Hid (w.heap.size <= gA) := hide (by rw [hgA]; exact (b0.trans (bi.trans b1)).size)
 have HGW : Hid (gA < W1.heap.size) := hide rgA.lt
 clear hW1 hgA b0 bi b1 bW1 rgA hk1 hm1 hi
 go_upto_region 7 with (first | (go_at_call 24; (with_reducible refine (items20_calls _ 1 (by omega)).mono ?_); rintro e ai ⟨Ai, ni, ci, rfl, hi, bi⟩) | (go_at_call 14; (refine (HN1.out _ _ _ _ hi).mono ?_); rintro e a2 h1; unfold CauP at h1; dsimp only at h1; obtain ⟨b2, hm2, B1b, B2b, B3b, B4b, m1b, m2b, m3b, m4b, d1b, d2b, d3b, d4b, rfl, hk2⟩ := h1))
 obtain ⟨W2, hW2⟩ : ∃ W2, W2 = a2.alloc (Obj.cells #[Value.slice B1b m1b d1b, Value.int .i64 D1.hor, Value.int .i64 D1.now, Value.slice B2b m2b d2b, Value.slice B3b m3b d3b, Value.slice B4b m4b d4b] 27) := ⟨_, rfl⟩
 obtain ⟨gB, hgB⟩ : ∃ gB, gB = a2.heap.size := ⟨_, rfl⟩
 have bW2 : Later a2 W2 := by rw [hW2]; exact (Later.refl _).alloc _
 have rgB : Row W2 gB 27 [.slice B1b m1b d1b, .int .i64 D1.hor, .int .i64 D1.now, .slice B2b m2b d2b, .slice B3b m3b d3b, .slice B4b m4b d4b] := by rw [hW2, hgB]; exact Row.new _ _ _
 rw [<- hW2, <- hgB]
 have HL2 := hide (HL1.out.trans (bi.trans (b2.trans bW2)))
 have HB2 : Hid (BkAt w.heap.size W2 gB D1) := hide ⟨B1b, B2b, B3b, B4b, m1b, m2b, m3b, m4b, d1b, d2b, d3b, d4b, rgB, (hk2.weaken (HL1.out.trans bi).size).later bW2⟩
 have HA2 := hide (HA1.out.later (bi.trans (b2.trans bW2)))
 have HGB : Hid (w.heap.size <= gB) := hide (by rw [hgB]; exact (HL1.out.trans (bi.trans b2)).size)
 have HNB : Hid (gB ≠ gA) := hide (by have h1 := HGW.out; have h2 := (bi.trans b2).size; omega)
 clear hW2 hgB bi b2 bW2 rgB hk2 hm2 hi
 go_wp2_with fail
 go_loopw [7] (fun iv wr => ∃ (j : Nat) (D : PBook), iv = .int .i64 (j : Int) /\ j <= n /\ Hid (BkAt w.heap.size wr gA D) /\ Hid (OrdsP (itemsN 1) 2 (l.take j) D) /\ Hid ((∀ o ∈ l.take j, o.okP (itemsN 1).length) /\ (l.take j).Pairwise fun a b => a.id ≠ b.id) /\ Hid (BkAt w.heap.size wr gB D1) /\ Hid (Later w wr)) (fun iv _ => (n - intOf iv).toNat)
 case atStart => exact ⟨0, D1, rfl, Nat.zero_le _, HA2, hide (by rw [List.take_zero]; exact HS0.out), hide (by rw [List.take_zero]; exact ⟨fun o ho => (by cases ho), List.Pairwise.nil⟩), HB2, HL2⟩
 case round =>
  obtain ⟨j, D, rfl, hj, HB, HS, HPW, HBo, HL⟩ := hrel
  by_cases hjn : j < n
  rotate_left
  ·obtain rfl : n = j := by omega
   have HLT : Hid (l.take n = l) := hide (List.take_of_length_le (by have := HNL.out; omega))
   rw [HLT.out] at HS HPW
   have HSA := HS; have HPW2 := HPW; have HB0 := HB; have HB1 := HBo; have HL1 := HL
   clear HS HPW HB HBo HL
   obtain ⟨DA, hDA⟩ : ∃ DA, DA = D := ⟨_, rfl⟩
   rw [<- hDA] at HSA HB0
   clear hDA
   have hwn : IntKind.i64.wrap ((n : Int) - 1) = (n : Int) - 1 := IntWalk.i64_in _ (by omega)
   go_wp2_with fail
   clear hwn
   go_loopw [10] (fun iv wr => ∃ (j : Nat) (D : PBook), iv = .int .i64 ((j : Int) - 1) /\ j <= n /\ Hid (BkAt w.heap.size wr gB D) /\ Hid (OrdsP (itemsN 1) 2 (l.drop j).reverse D) /\ Hid (BkAt w.heap.size wr gA DA) /\ Hid (Later w wr)) (fun iv _ => (intOf iv + 1).toNat)
   case atStart => exact ⟨n, D1, rfl, Nat.le_refl _, HB1, hide (by rw [List.drop_eq_nil_of_le (by have := HNL.out; omega)]; exact HS0.out), HB0, HL1⟩
   case round =>
    obtain ⟨j', D, rfl, hj, HB, HS, HBo, HL⟩ := hrel
    cases j' with
    | succ j =>
      have t1 : decide ((0 : Int) <= ((j + 1 : Nat) : Int) - 1) = true := by first | (simp; done) | (simp; omega)
      have hv1 : (((j + 1 : Nat) : Int) - 1) = (j : Int) := by omega
      rw [hv1]
      rw [hv1] at t1
      obtain ⟨o, ho⟩ : ∃ o, l[j]? = some o := ⟨l[j]'(by have := HNL.out; omega), List.getElem?_eq_getElem _⟩
      obtain ⟨b1, off1, rfl, y0, y1, y2, y3⟩ := (HQ.out.later HL.out).at4 ho
      have hj0 : (0 : Int) <= (j : Int) := by omega
      have hj1 : (j : Int) < n := by omega
      have hfo := HFT.out o (List.mem_of_getElem? ho)
      obtain ⟨D', hr⟩ := HS.out.back (by rw [List.length_reverse, List.length_drop]; have := HNL.out; omega) (HPW2.out.1 o (List.mem_of_getElem? ho)) (ids_apart HPW2.out.2 ho)
      have HS' : Hid (OrdsP (itemsN 1) 2 (l.drop j).reverse D') := hide (by rw [drop_rev ho]; exact (HS.out.step hr).1)
      obtain ⟨B1p, B2p, B3p, B4p, m1p, m2p, m3p, m4p, d1p, d2p, d3p, d4p, hRp, hKp⟩ := HB.out
      have hwj : IntKind.i64.wrap ((j : Int) - 1) = (j : Int) - 1 := IntWalk.i64_in _ (by omega)
      have HCA : Hid (∀ W, Later wr W -> Calls Tryz.prog 12 #[.agg #[.slice B1p m1p d1p, .int .i64 D.hor, .int .i64 D.now, .slice B2p m2p d2p, .slice B3p m3p d3p, .slice B4p m4p d4p], .agg #[.int .i64 1, .int .i64 o.id, .int .i64 o.item, .int .i64 o.due, .int .i64 o.qty, .int .i64 0, .int .i64 0, .int .i64 0, .slice none 0 0]] W (CauP W (.ok D'))) := hide (fun W hW => by
       have h2 := apply_calls W B1p B2p B3p B4p none m1p m2p m3p m4p 0 d1p d2p d3p d4p 0 D (mkOrd o) ((hKp.later hW).book (fit_of_may HS.out.may)) hfo (Sq.nil _ _ _) (by simp [mkOrd])
       rw [hr] at h2; exact h2)
      have HRp := hide hRp; have HKp := hide hKp
      have HT1 : Hid (∀ w', Later wr w' -> w'.cell? ⟨gB, 0, none⟩ = some (.slice B1p m1p d1p) /\ w'.cell? ⟨gB, 1, none⟩ = some (.int .i64 D.hor) /\ w'.cell? ⟨gB, 2, none⟩ = some (.int .i64 D.now) /\ w'.cell? ⟨gB, 3, none⟩ = some (.slice B2p m2p d2p) /\ w'.cell? ⟨gB, 4, none⟩ = some (.slice B3p m3p d3p) /\ w'.cell? ⟨gB, 5, none⟩ = some (.slice B4p m4p d4p) /\ w'.cell? ⟨b1, off1 + j * 4, none⟩ = some (.int .i64 o.id) /\ w'.cell? ⟨b1, off1 + j * 4 + 1, none⟩ = some (.int .i64 o.item) /\ w'.cell? ⟨b1, off1 + j * 4 + 2, none⟩ = some (.int .i64 o.due) /\ w'.cell? ⟨b1, off1 + j * 4 + 3, none⟩ = some (.int .i64 o.qty)) := hide (fun w' hb => ⟨(hRp.later hb).cell rfl, (hRp.later hb).cell rfl, (hRp.later hb).cell rfl, (hRp.later hb).cell rfl, (hRp.later hb).cell rfl, (hRp.later hb).cell rfl, Later.cell hb y0, Later.cell hb y1, Later.cell hb y2, Later.cell hb y3⟩)
      clear ho hr hRp hKp hfo y0 y1 y2 y3 hv1
      have hmx : Tryz.prog.follows .mixedOrders = true := by kernel_rfl
      go_upto_region 17 with fail
      refine wp_region_N (fun w' => w'.cell? ⟨gB, 0, none⟩ = some (.slice B1p m1p d1p) /\ w'.cell? ⟨gB, 1, none⟩ = some (.int .i64 D.hor) /\ w'.cell? ⟨gB, 2, none⟩ = some (.int .i64 D.now) /\ w'.cell? ⟨gB, 3, none⟩ = some (.slice B2p m2p d2p) /\ w'.cell? ⟨gB, 4, none⟩ = some (.slice B3p m3p d3p) /\ w'.cell? ⟨gB, 5, none⟩ = some (.slice B4p m4p d4p) /\ w'.cell? ⟨b1, off1 + j * 4, none⟩ = some (.int .i64 o.id) /\ w'.cell? ⟨b1, off1 + j * 4 + 1, none⟩ = some (.int .i64 o.item) /\ w'.cell? ⟨b1, off1 + j * 4 + 2, none⟩ = some (.int .i64 o.due) /\ w'.cell? ⟨b1, off1 + j * 4 + 3, none⟩ = some (.int .i64 o.qty)) [] hmx (HT1.out _ lt_) (fun hHeld => ?_)
      refine tkB 55 0 ?_
      refine tkB 56 1 ?_
      refine tkB 57 2 ?_
      refine tkB 58 3 ?_
      refine tkB 59 4 ?_
      refine tkB 60 5 ?_
      refine wpAnyN_ready (rs := [6, 10]) (by kernel_rfl) (by simp) ?_
      refine AllReadyN.held rfl (by rfl) (fun K hK => ?_) ?_
      ·go_simp
       refine (HCA.out _ lt_).mono ?_
       rintro e a5 h1
       unfold CauP at h1
       dsimp only at h1
       obtain ⟨b5, hm5, B1q, B2q, B3q, B4q, m1q, m2q, m3q, m4q, d1q, d2q, d3q, d4q, rfl, hk5⟩ := h1
       have HK5 := hide hk5; have HM5 := hide hm5
       clear hk5 hm5
       have l5 : Later wr a5 := Later.trans lt_ b5
       refine hK.out _ _ ?_ (fun hHeld => ?_)
       ·exact HT1.out _ lt_
       clear hK K
       try simp only [Act.put, s1_, s2_, s3_]
       refine tkB 54 7 ?_
       refine tkB 62 8 ?_
       refine tkB 63 9 ?_
       refine wpAnyN_ready (rs := [10]) (by kernel_rfl) (by simp) ?_
       refine AllReadyN.held rfl (by rfl) (fun K hK => ?_) AllReadyN.nil
       go_simp
       obtain ⟨g8, hg8⟩ : ∃ g, g = a5.heap.size := ⟨_, rfl⟩
       rw [<- hg8]
       have hgl : wr.heap.size <= g8 := by rw [hg8]; exact l5.size
       have hz8 : Row (a5.alloc (Obj.cells #[Value.slice none 0 0, Value.int .i64 0, Value.int .i64 0, Value.slice none 0 0, Value.slice none 0 0, Value.slice none 0 0] 27)) g8 27 [.slice none 0 0, .int .i64 0, .int .i64 0, .slice none 0 0, .slice none 0 0, .slice none 0 0] := by rw [hg8]; exact Row.new _ _ _
       have q0 := hz8.cell (i := 0) rfl; have qz0 := hz8.frozen 0; have q1 := hz8.cell (i := 1) rfl; have qz1 := hz8.frozen 1; have q2 := hz8.cell (i := 2) rfl; have qz2 := hz8.frozen 2; have q3 := hz8.cell (i := 3) rfl; have qz3 := hz8.frozen 3; have q4 := hz8.cell (i := 4) rfl; have qz4 := hz8.frozen 4; have q5 := hz8.cell (i := 5) rfl; have qz5 := hz8.frozen 5
       have HZ9 := hide hz8
       clear hz8 hg8
       refine hK.out _ _ ?_ (fun hHeld => ?_)
       ·exact HT1.out _ lt_
       clear hK K
       try simp only [Act.put, s1_, s2_, s3_]
       refine wpAnyN_ready (rs := [11]) (by kernel_rfl) (by simp) ?_
       refine AllReadyN.held rfl (by rfl) (fun K hK => ?_) AllReadyN.nil
       go_simp
       refine hK.out _ _ ?_ (fun hHeld => ?_)
       ·exact HT1.out _ (Later.setCell (Later.setCell (Later.setCell (Later.setCell (Later.setCell (Later.setCell (l5.alloc _) hgl _) hgl _) hgl _) hgl _) hgl _) hgl _)
       clear hK K
       try simp only [Act.put, s1_, s2_, s3_]
       refine tkB 12 12 ?_
       refine wpAnyN_done (by kernel_rfl) ?_ _
       clear hHeld
       obtain ⟨W8, hW8⟩ : ∃ W, W = (((((((a5.alloc (Obj.cells #[Value.slice none 0 0, Value.int .i64 0, Value.int .i64 0, Value.slice none 0 0, Value.slice none 0 0, Value.slice none 0 0] 27)).setCell ⟨g8, 0, none⟩ (.slice B1q m1q d1q)).setCell ⟨g8, 1, none⟩ (.int .i64 D'.hor)).setCell ⟨g8, 2, none⟩ (.int .i64 D'.now)).setCell ⟨g8, 3, none⟩ (.slice B2q m2q d2q)).setCell ⟨g8, 4, none⟩ (.slice B3q m3q d3q)).setCell ⟨g8, 5, none⟩ (.slice B4q m4q d4q)) := ⟨_, rfl⟩
       have oo8 : Only g8 (a5.alloc (Obj.cells #[Value.slice none 0 0, Value.int .i64 0, Value.int .i64 0, Value.slice none 0 0, Value.slice none 0 0, Value.slice none 0 0] 27)) W8 := by rw [hW8]; exact only6 g8 (.slice B1q m1q d1q) (.int .i64 D'.hor) (.int .i64 D'.now) (.slice B2q m2q d2q) (.slice B3q m3q d3q) (.slice B4q m4q d4q)
       have R8 : Hid (Row W8 g8 27 [.slice B1q m1q d1q, .int .i64 D'.hor, .int .i64 D'.now, .slice B2q m2q d2q, .slice B3q m3q d3q, .slice B4q m4q d4q]) := hide (by rw [hW8]; exact HZ9.out.put6 _ _ _ _ _ _)
       have L8 : Hid (Later wr W8) := hide (Later.only (l5.alloc _) oo8 hgl)
       have HG8 := hide hgl
       have K8 : Hid (BkN w.heap.size W8 (.slice B1q m1q d1q) (.slice B2q m2q d2q) (.slice B3q m3q d3q) (.slice B4q m4q d4q) D') := hide (((HK5.out.weaken HL.out.drew.size).later ((Later.refl _).alloc _)).box (IsBox.book HZ9.out) oo8)
       rw [<- hW8]
       clear hW8 oo8 q0 q1 q2 q3 q4 q5 qz0 qz1 qz2 qz3 qz4 qz5 l5 b5 HZ9 hgl
       have rp8 := HRp.out.later L8.out
       have x0 := (R8.out.later (Later.refl _)).cell (i := 0) rfl; have x1 := (R8.out.later (Later.refl _)).cell (i := 1) rfl; have x2 := (R8.out.later (Later.refl _)).cell (i := 2) rfl; have x3 := (R8.out.later (Later.refl _)).cell (i := 3) rfl; have x4 := (R8.out.later (Later.refl _)).cell (i := 4) rfl; have x5 := (R8.out.later (Later.refl _)).cell (i := 5) rfl
       have k0 := rp8.cell (i := 0) rfl; have kz0 := rp8.frozen 0; have k1 := rp8.cell (i := 1) rfl; have kz1 := rp8.frozen 1; have k2 := rp8.cell (i := 2) rfl; have kz2 := rp8.frozen 2; have k3 := rp8.cell (i := 3) rfl; have kz3 := rp8.frozen 3; have k4 := rp8.cell (i := 4) rfl; have kz4 := rp8.frozen 4; have k5 := rp8.cell (i := 5) rfl; have kz5 := rp8.frozen 5
       have HRp8 := hide rp8
       clear rp8
       go_wp2_with fail
       obtain ⟨W9, hW9⟩ : ∃ W, W = ((((((W8.setCell ⟨gB, 0, none⟩ (.slice B1q m1q d1q)).setCell ⟨gB, 1, none⟩ (.int .i64 D'.hor)).setCell ⟨gB, 2, none⟩ (.int .i64 D'.now)).setCell ⟨gB, 3, none⟩ (.slice B2q m2q d2q)).setCell ⟨gB, 4, none⟩ (.slice B3q m3q d3q)).setCell ⟨gB, 5, none⟩ (.slice B4q m4q d4q)) := ⟨_, rfl⟩
       have oo9 : Only gB W8 W9 := by rw [hW9]; exact only6 gB (.slice B1q m1q d1q) (.int .i64 D'.hor) (.int .i64 D'.now) (.slice B2q m2q d2q) (.slice B3q m3q d3q) (.slice B4q m4q d4q)
       have R9 : Row W9 gB 27 [.slice B1q m1q d1q, .int .i64 D'.hor, .int .i64 D'.now, .slice B2q m2q d2q, .slice B3q m3q d3q, .slice B4q m4q d4q] := by rw [hW9]; exact HRp8.out.put6 _ _ _ _ _ _
       rw [<- hW9]
       clear hW9
       exact ⟨⟨j, D', by go_num, by omega, hide ⟨B1q, B2q, B3q, B4q, m1q, m2q, m3q, m4q, d1q, d2q, d3q, d4q, R9, K8.out.box (IsBox.book HRp8.out) oo9⟩, HS', hide ((HBo.out.later L8.out).other (IsBox.book HRp8.out) (Ne.symm HNB.out) oo9), hide ((HL.out.trans L8.out).only oo9 HGB.out)⟩, by first | (simp [intOf]; done) | (simp [intOf]; omega)⟩
      refine AllReadyN.held rfl (by rfl) (fun K hK => ?_) AllReadyN.nil
      go_simp
      obtain ⟨g8, hg8⟩ : ∃ g, g = wr.heap.size := ⟨_, rfl⟩
      rw [<- hg8]
      have hgl : wr.heap.size <= g8 := by rw [hg8]; exact Nat.le_refl _
      have HZ8 : Hid (Row (wr.drew.alloc (Obj.cells #[Value.slice none 0 0, Value.int .i64 0, Value.int .i64 0, Value.slice none 0 0, Value.slice none 0 0, Value.slice none 0 0] 27)) g8 27 [.slice none 0 0, .int .i64 0, .int .i64 0, .slice none 0 0, .slice none 0 0, .slice none 0 0]) := hide (by rw [hg8]; exact Row.new wr.drew _ _)
      clear hg8
      refine hK.out _ _ ?_ (fun hHeld => ?_)
      ·exact HT1.out _ lt_
      clear hK K
      try simp only [Act.put, s1_, s2_, s3_]
      refine wpAnyN_ready (rs := [6]) (by kernel_rfl) (by simp) ?_
      refine AllReadyN.held rfl (by rfl) (fun K hK => ?_) AllReadyN.nil
      go_simp
      refine (HCA.out _ lt_).mono ?_
      rintro e a5 h1
      unfold CauP at h1
      dsimp only at h1
      obtain ⟨b5, hm5, B1q, B2q, B3q, B4q, m1q, m2q, m3q, m4q, d1q, d2q, d3q, d4q, rfl, hk5⟩ := h1
      have HK5 := hide hk5; have HM5 := hide hm5
      clear hk5 hm5
      have hz8 := HZ8.out.later b5
      have q0 := hz8.cell (i := 0) rfl; have qz0 := hz8.frozen 0; have q1 := hz8.cell (i := 1) rfl; have qz1 := hz8.frozen 1; have q2 := hz8.cell (i := 2) rfl; have qz2 := hz8.frozen 2; have q3 := hz8.cell (i := 3) rfl; have qz3 := hz8.frozen 3; have q4 := hz8.cell (i := 4) rfl; have qz4 := hz8.frozen 4; have q5 := hz8.cell (i := 5) rfl; have qz5 := hz8.frozen 5
      have HZ9 := hide hz8
      clear hz8
      have l5 : Later wr a5 := Later.trans lt_ b5
      refine hK.out _ _ ?_ (fun hHeld => ?_)
      ·exact HT1.out _ lt_
      clear hK K
      try simp only [Act.put, s1_, s2_, s3_]
      refine tkB 54 7 ?_
      refine tkB 62 8 ?_
      refine tkB 63 9 ?_
      refine wpAnyN_ready (rs := [11]) (by kernel_rfl) (by simp) ?_
      refine AllReadyN.held rfl (by rfl) (fun K hK => ?_) AllReadyN.nil
      go_simp
      refine hK.out _ _ ?_ (fun hHeld => ?_)
      ·exact HT1.out _ (Later.setCell (Later.setCell (Later.setCell (Later.setCell (Later.setCell (Later.setCell l5 hgl _) hgl _) hgl _) hgl _) hgl _) hgl _)
      clear hK K
      try simp only [Act.put, s1_, s2_, s3_]
      refine tkB 12 12 ?_
      refine wpAnyN_done (by kernel_rfl) ?_ _
      clear hHeld
      obtain ⟨W8, hW8⟩ : ∃ W, W = ((((((a5.setCell ⟨g8, 0, none⟩ (.slice B1q m1q d1q)).setCell ⟨g8, 1, none⟩ (.int .i64 D'.hor)).setCell ⟨g8, 2, none⟩ (.int .i64 D'.now)).setCell ⟨g8, 3, none⟩ (.slice B2q m2q d2q)).setCell ⟨g8, 4, none⟩ (.slice B3q m3q d3q)).setCell ⟨g8, 5, none⟩ (.slice B4q m4q d4q)) := ⟨_, rfl⟩
      have oo8 : Only g8 a5 W8 := by rw [hW8]; exact only6 g8 (.slice B1q m1q d1q) (.int .i64 D'.hor) (.int .i64 D'.now) (.slice B2q m2q d2q) (.slice B3q m3q d3q) (.slice B4q m4q d4q)
      have R8 : Hid (Row W8 g8 27 [.slice B1q m1q d1q, .int .i64 D'.hor, .int .i64 D'.now, .slice B2q m2q d2q, .slice B3q m3q d3q, .slice B4q m4q d4q]) := hide (by rw [hW8]; exact HZ9.out.put6 _ _ _ _ _ _)
      have L8 : Hid (Later wr W8) := hide (Later.only l5 oo8 hgl)
      have HG8 := hide hgl
      have K8 : Hid (BkN w.heap.size W8 (.slice B1q m1q d1q) (.slice B2q m2q d2q) (.slice B3q m3q d3q) (.slice B4q m4q d4q) D') := hide (((HK5.out.weaken (HL.out.drew.alloc _).size)).box (IsBox.book HZ9.out) oo8)
      rw [<- hW8]
      clear hW8 oo8 q0 q1 q2 q3 q4 q5 qz0 qz1 qz2 qz3 qz4 qz5 l5 b5 HZ9 hgl
      have rp8 := HRp.out.later L8.out
      have x0 := (R8.out.later (Later.refl _)).cell (i := 0) rfl; have x1 := (R8.out.later (Later.refl _)).cell (i := 1) rfl; have x2 := (R8.out.later (Later.refl _)).cell (i := 2) rfl; have x3 := (R8.out.later (Later.refl _)).cell (i := 3) rfl; have x4 := (R8.out.later (Later.refl _)).cell (i := 4) rfl; have x5 := (R8.out.later (Later.refl _)).cell (i := 5) rfl
      have k0 := rp8.cell (i := 0) rfl; have kz0 := rp8.frozen 0; have k1 := rp8.cell (i := 1) rfl; have kz1 := rp8.frozen 1; have k2 := rp8.cell (i := 2) rfl; have kz2 := rp8.frozen 2; have k3 := rp8.cell (i := 3) rfl; have kz3 := rp8.frozen 3; have k4 := rp8.cell (i := 4) rfl; have kz4 := rp8.frozen 4; have k5 := rp8.cell (i := 5) rfl; have kz5 := rp8.frozen 5
      have HRp8 := hide rp8
      clear rp8
      go_wp2_with fail
      obtain ⟨W9, hW9⟩ : ∃ W, W = ((((((W8.setCell ⟨gB, 0, none⟩ (.slice B1q m1q d1q)).setCell ⟨gB, 1, none⟩ (.int .i64 D'.hor)).setCell ⟨gB, 2, none⟩ (.int .i64 D'.now)).setCell ⟨gB, 3, none⟩ (.slice B2q m2q d2q)).setCell ⟨gB, 4, none⟩ (.slice B3q m3q d3q)).setCell ⟨gB, 5, none⟩ (.slice B4q m4q d4q)) := ⟨_, rfl⟩
      have oo9 : Only gB W8 W9 := by rw [hW9]; exact only6 gB (.slice B1q m1q d1q) (.int .i64 D'.hor) (.int .i64 D'.now) (.slice B2q m2q d2q) (.slice B3q m3q d3q) (.slice B4q m4q d4q)
      have R9 : Row W9 gB 27 [.slice B1q m1q d1q, .int .i64 D'.hor, .int .i64 D'.now, .slice B2q m2q d2q, .slice B3q m3q d3q, .slice B4q m4q d4q] := by rw [hW9]; exact HRp8.out.put6 _ _ _ _ _ _
      rw [<- hW9]
      clear hW9
      exact ⟨⟨j, D', by go_num, by omega, hide ⟨B1q, B2q, B3q, B4q, m1q, m2q, m3q, m4q, d1q, d2q, d3q, d4q, R9, K8.out.box (IsBox.book HRp8.out) oo9⟩, HS', hide ((HBo.out.later L8.out).other (IsBox.book HRp8.out) (Ne.symm HNB.out) oo9), hide ((HL.out.trans L8.out).only oo9 HGB.out)⟩, by first | (simp [intOf]; done) | (simp [intOf]; omega)⟩
    | zero =>
      have t1 : decide ((0 : Int) <= ((0 : Nat) : Int) - 1) = false := by decide
      have hDD2 : D = DA := HS.out.same HSA.out (fun x => by rw [List.mem_reverse]; rfl)
      subst hDD2
      obtain ⟨B1p, B2p, B3p, B4p, m1p, m2p, m3p, m4p, d1p, d2p, d3p, d4p, hRp, hKp⟩ := HBo.out
      obtain ⟨B1r, B2r, B3r, B4r, m1r, m2r, m3r, m4r, d1r, d2r, d3r, d4r, hRr, hKr⟩ := HB.out
      have HF1 := hide (hKp.book (fit_of_may HS.out.may)); have HF2 := hide (hKr.book (fit_of_may HS.out.may))
      have hm3 : m3p = n := by have h1 := (own_len3 hKp.ords).1; have h2 := HSA.out.len; have h3 := HNL.out; omega
      subst hm3
      have HMT : Hid (mayB D = true) := hide (mayB_iff.2 HS.out.may)
      have HRA := hide hRp
      have x := hRp; have y := hRr
      have x0 := x.cell (i := 0) rfl; have x1 := x.cell (i := 1) rfl; have x2 := x.cell (i := 2) rfl; have x3 := x.cell (i := 3) rfl; have x4 := x.cell (i := 4) rfl; have x5 := x.cell (i := 5) rfl; have y0 := y.cell (i := 0) rfl; have y1 := y.cell (i := 1) rfl; have y2 := y.cell (i := 2) rfl; have y3 := y.cell (i := 3) rfl; have y4 := y.cell (i := 4) rfl; have y5 := y.cell (i := 5) rfl
      clear x y hRp hRr hKp hKr
      go_wp2_with (first | (go_at_call 15; (with_reducible refine (refsame_calls _ B1p B2p B3p B4p B1r B2r B3r B4r m1p m2p m3p m4p d1p d2p d3p d4p m1r m2r m3r m4r d1r d2r d3r d4r D HF1.out HF2.out).mono ?_); rintro e a29 ⟨rfl, b29⟩; have u0 := (HRA.out.later b29).cell (i := 0) rfl; have u1 := (HRA.out.later b29).cell (i := 1) rfl; have u2 := (HRA.out.later b29).cell (i := 2) rfl; have u3 := (HRA.out.later b29).cell (i := 3) rfl; have u4 := (HRA.out.later b29).cell (i := 4) rfl; have u5 := (HRA.out.later b29).cell (i := 5) rfl) | (go_at_call 16; (with_reducible refine (rmay_calls _ B1p B2p B3p B4p m1p m2p m3p m4p d1p d2p d3p d4p D (HF1.out.later b29) true HMT.out).mono ?_); rintro e a30 ⟨rfl, b30⟩; have z4 := (HRA.out.later (b29.trans b30)).cell (i := 4) rfl))
      go_ret
      exact ⟨rfl, (HL.out.trans b29).trans b30⟩
  obtain ⟨o, ho⟩ : ∃ o, l[j]? = some o := ⟨l[j]'(by have := HNL.out; omega), List.getElem?_eq_getElem _⟩
  obtain ⟨b1, off1, rfl, y0, y1, y2, y3⟩ := (HQ.out.later HL.out).at4 ho
  have hj0 : (0 : Int) <= (j : Int) := by omega
  have hj1 : (j : Int) < n := by omega
  have hfo := HFT.out o (List.mem_of_getElem? ho)
  obtain ⟨r, hr⟩ : ∃ r, applyV D (mkOrd o) = r := ⟨_, rfl⟩
  have HR := hide hr
  obtain ⟨B1p, B2p, B3p, B4p, m1p, m2p, m3p, m4p, d1p, d2p, d3p, d4p, hRp, hKp⟩ := HB.out
  have HCA : Hid (∀ W, Later wr W -> Calls Tryz.prog 12 #[.agg #[.slice B1p m1p d1p, .int .i64 D.hor, .int .i64 D.now, .slice B2p m2p d2p, .slice B3p m3p d3p, .slice B4p m4p d4p], .agg #[.int .i64 1, .int .i64 o.id, .int .i64 o.item, .int .i64 o.due, .int .i64 o.qty, .int .i64 0, .int .i64 0, .int .i64 0, .slice none 0 0]] W (CauP W r)) := hide (fun W hW => by
   have h2 := apply_calls W B1p B2p B3p B4p none m1p m2p m3p m4p 0 d1p d2p d3p d4p 0 D (mkOrd o) ((hKp.later hW).book (fit_of_may HS.out.may)) hfo (Sq.nil _ _ _) (by simp [mkOrd])
   rw [hr] at h2; exact h2)
  have HRp := hide hRp; have HKp := hide hKp
  have HT1 : Hid (∀ w', Later wr w' -> w'.cell? ⟨gA, 0, none⟩ = some (.slice B1p m1p d1p) /\ w'.cell? ⟨gA, 1, none⟩ = some (.int .i64 D.hor) /\ w'.cell? ⟨gA, 2, none⟩ = some (.int .i64 D.now) /\ w'.cell? ⟨gA, 3, none⟩ = some (.slice B2p m2p d2p) /\ w'.cell? ⟨gA, 4, none⟩ = some (.slice B3p m3p d3p) /\ w'.cell? ⟨gA, 5, none⟩ = some (.slice B4p m4p d4p) /\ w'.cell? ⟨b1, off1 + j * 4, none⟩ = some (.int .i64 o.id) /\ w'.cell? ⟨b1, off1 + j * 4 + 1, none⟩ = some (.int .i64 o.item) /\ w'.cell? ⟨b1, off1 + j * 4 + 2, none⟩ = some (.int .i64 o.due) /\ w'.cell? ⟨b1, off1 + j * 4 + 3, none⟩ = some (.int .i64 o.qty)) := hide (fun w' hb => ⟨(hRp.later hb).cell rfl, (hRp.later hb).cell rfl, (hRp.later hb).cell rfl, (hRp.later hb).cell rfl, (hRp.later hb).cell rfl, (hRp.later hb).cell rfl, Later.cell hb y0, Later.cell hb y1, Later.cell hb y2, Later.cell hb y3⟩)
  have HOJ := hide ho
  clear ho hr hRp hKp hfo y0 y1 y2 y3
  have hmx : Tryz.prog.follows .mixedOrders = true := by kernel_rfl
  go_upto_region 10 with fail
  cases r with
  | ok D' =>
    have HS' : Hid (OrdsP (itemsN 1) 2 (l.take (j+1)) D') := hide (by rw [take_snoc HOJ.out]; exact (HS.out.step HR.out).1)
    have HPW' : Hid ((∀ o ∈ l.take (j+1), o.okP (itemsN 1).length) /\ (l.take (j+1)).Pairwise fun a b => a.id ≠ b.id) := hide (by
     obtain ⟨-, h1, h2⟩ := HS.out.step HR.out
     rw [take_snoc HOJ.out]
     refine ⟨fun x hx => ?_, ?_⟩
     ·rcases List.mem_append.1 hx with hx | hx
      ·exact HPW.out.1 x hx
      ·rw [List.mem_singleton.1 hx]; exact h1
     ·rw [List.pairwise_append]
      refine ⟨HPW.out.2, by simp, fun a ha b hb => ?_⟩
      rw [List.mem_singleton.1 hb]
      exact h2 a ha)
    have HNB' := hide (Ne.symm HNB.out)
    refine wp_region_N (fun w' => w'.cell? ⟨gA, 0, none⟩ = some (.slice B1p m1p d1p) /\ w'.cell? ⟨gA, 1, none⟩ = some (.int .i64 D.hor) /\ w'.cell? ⟨gA, 2, none⟩ = some (.int .i64 D.now) /\ w'.cell? ⟨gA, 3, none⟩ = some (.slice B2p m2p d2p) /\ w'.cell? ⟨gA, 4, none⟩ = some (.slice B3p m3p d3p) /\ w'.cell? ⟨gA, 5, none⟩ = some (.slice B4p m4p d4p) /\ w'.cell? ⟨b1, off1 + j * 4, none⟩ = some (.int .i64 o.id) /\ w'.cell? ⟨b1, off1 + j * 4 + 1, none⟩ = some (.int .i64 o.item) /\ w'.cell? ⟨b1, off1 + j * 4 + 2, none⟩ = some (.int .i64 o.due) /\ w'.cell? ⟨b1, off1 + j * 4 + 3, none⟩ = some (.int .i64 o.qty)) [] hmx (HT1.out _ lt_) (fun hHeld => ?_)
    refine tkB 35 0 ?_
    refine tkB 36 1 ?_
    refine tkB 37 2 ?_
    refine tkB 38 3 ?_
    refine tkB 39 4 ?_
    refine tkB 40 5 ?_
    refine wpAnyN_ready (rs := [6, 10]) (by kernel_rfl) (by simp) ?_
    refine AllReadyN.held rfl (by rfl) (fun K hK => ?_) ?_
    ·go_simp
     refine (HCA.out _ lt_).mono ?_
     rintro e a5 h1
     unfold CauP at h1
     dsimp only at h1
     obtain ⟨b5, hm5, B1q, B2q, B3q, B4q, m1q, m2q, m3q, m4q, d1q, d2q, d3q, d4q, rfl, hk5⟩ := h1
     have HK5 := hide hk5; have HM5 := hide hm5
     clear hk5 hm5
     have l5 : Later wr a5 := Later.trans lt_ b5
     refine hK.out _ _ ?_ (fun hHeld => ?_)
     ·exact HT1.out _ lt_
     clear hK K
     try simp only [Act.put, s1_, s2_, s3_]
     refine tkB 34 7 ?_
     refine tkB 42 8 ?_
     refine tkB 43 9 ?_
     refine wpAnyN_ready (rs := [10]) (by kernel_rfl) (by simp) ?_
     refine AllReadyN.held rfl (by rfl) (fun K hK => ?_) AllReadyN.nil
     go_simp
     obtain ⟨g8, hg8⟩ : ∃ g, g = a5.heap.size := ⟨_, rfl⟩
     rw [<- hg8]
     have hgl : wr.heap.size <= g8 := by rw [hg8]; exact l5.size
     have hz8 : Row (a5.alloc (Obj.cells #[Value.slice none 0 0, Value.int .i64 0, Value.int .i64 0, Value.slice none 0 0, Value.slice none 0 0, Value.slice none 0 0] 27)) g8 27 [.slice none 0 0, .int .i64 0, .int .i64 0, .slice none 0 0, .slice none 0 0, .slice none 0 0] := by rw [hg8]; exact Row.new _ _ _
     have q0 := hz8.cell (i := 0) rfl; have qz0 := hz8.frozen 0; have q1 := hz8.cell (i := 1) rfl; have qz1 := hz8.frozen 1; have q2 := hz8.cell (i := 2) rfl; have qz2 := hz8.frozen 2; have q3 := hz8.cell (i := 3) rfl; have qz3 := hz8.frozen 3; have q4 := hz8.cell (i := 4) rfl; have qz4 := hz8.frozen 4; have q5 := hz8.cell (i := 5) rfl; have qz5 := hz8.frozen 5
     have HZ9 := hide hz8
     clear hz8 hg8
     refine hK.out _ _ ?_ (fun hHeld => ?_)
     ·exact HT1.out _ lt_
     clear hK K
     try simp only [Act.put, s1_, s2_, s3_]
     refine wpAnyN_ready (rs := [11]) (by kernel_rfl) (by simp) ?_
     refine AllReadyN.held rfl (by rfl) (fun K hK => ?_) AllReadyN.nil
     go_simp
     refine hK.out _ _ ?_ (fun hHeld => ?_)
     ·exact HT1.out _ (Later.setCell (Later.setCell (Later.setCell (Later.setCell (Later.setCell (Later.setCell (l5.alloc _) hgl _) hgl _) hgl _) hgl _) hgl _) hgl _)
     clear hK K
     try simp only [Act.put, s1_, s2_, s3_]
     refine tkB 9 12 ?_
     refine wpAnyN_done (by kernel_rfl) ?_ _
     clear hHeld
     obtain ⟨W8, hW8⟩ : ∃ W, W = (((((((a5.alloc (Obj.cells #[Value.slice none 0 0, Value.int .i64 0, Value.int .i64 0, Value.slice none 0 0, Value.slice none 0 0, Value.slice none 0 0] 27)).setCell ⟨g8, 0, none⟩ (.slice B1q m1q d1q)).setCell ⟨g8, 1, none⟩ (.int .i64 D'.hor)).setCell ⟨g8, 2, none⟩ (.int .i64 D'.now)).setCell ⟨g8, 3, none⟩ (.slice B2q m2q d2q)).setCell ⟨g8, 4, none⟩ (.slice B3q m3q d3q)).setCell ⟨g8, 5, none⟩ (.slice B4q m4q d4q)) := ⟨_, rfl⟩
     have oo8 : Only g8 (a5.alloc (Obj.cells #[Value.slice none 0 0, Value.int .i64 0, Value.int .i64 0, Value.slice none 0 0, Value.slice none 0 0, Value.slice none 0 0] 27)) W8 := by rw [hW8]; exact only6 g8 (.slice B1q m1q d1q) (.int .i64 D'.hor) (.int .i64 D'.now) (.slice B2q m2q d2q) (.slice B3q m3q d3q) (.slice B4q m4q d4q)
     have R8 : Hid (Row W8 g8 27 [.slice B1q m1q d1q, .int .i64 D'.hor, .int .i64 D'.now, .slice B2q m2q d2q, .slice B3q m3q d3q, .slice B4q m4q d4q]) := hide (by rw [hW8]; exact HZ9.out.put6 _ _ _ _ _ _)
     have L8 : Hid (Later wr W8) := hide (Later.only (l5.alloc _) oo8 hgl)
     have HG8 := hide hgl
     have K8 : Hid (BkN w.heap.size W8 (.slice B1q m1q d1q) (.slice B2q m2q d2q) (.slice B3q m3q d3q) (.slice B4q m4q d4q) D') := hide (((HK5.out.weaken HL.out.drew.size).later ((Later.refl _).alloc _)).box (IsBox.book HZ9.out) oo8)
     rw [<- hW8]
     clear hW8 oo8 q0 q1 q2 q3 q4 q5 qz0 qz1 qz2 qz3 qz4 qz5 l5 b5 HZ9 hgl
     have rp8 := HRp.out.later L8.out
     have x0 := (R8.out.later (Later.refl _)).cell (i := 0) rfl; have x1 := (R8.out.later (Later.refl _)).cell (i := 1) rfl; have x2 := (R8.out.later (Later.refl _)).cell (i := 2) rfl; have x3 := (R8.out.later (Later.refl _)).cell (i := 3) rfl; have x4 := (R8.out.later (Later.refl _)).cell (i := 4) rfl; have x5 := (R8.out.later (Later.refl _)).cell (i := 5) rfl
     have k0 := rp8.cell (i := 0) rfl; have kz0 := rp8.frozen 0; have k1 := rp8.cell (i := 1) rfl; have kz1 := rp8.frozen 1; have k2 := rp8.cell (i := 2) rfl; have kz2 := rp8.frozen 2; have k3 := rp8.cell (i := 3) rfl; have kz3 := rp8.frozen 3; have k4 := rp8.cell (i := 4) rfl; have kz4 := rp8.frozen 4; have k5 := rp8.cell (i := 5) rfl; have kz5 := rp8.frozen 5
     have HRp8 := hide rp8
     clear rp8
     go_wp2_with fail
     obtain ⟨W9, hW9⟩ : ∃ W, W = ((((((W8.setCell ⟨gA, 0, none⟩ (.slice B1q m1q d1q)).setCell ⟨gA, 1, none⟩ (.int .i64 D'.hor)).setCell ⟨gA, 2, none⟩ (.int .i64 D'.now)).setCell ⟨gA, 3, none⟩ (.slice B2q m2q d2q)).setCell ⟨gA, 4, none⟩ (.slice B3q m3q d3q)).setCell ⟨gA, 5, none⟩ (.slice B4q m4q d4q)) := ⟨_, rfl⟩
     have oo9 : Only gA W8 W9 := by rw [hW9]; exact only6 gA (.slice B1q m1q d1q) (.int .i64 D'.hor) (.int .i64 D'.now) (.slice B2q m2q d2q) (.slice B3q m3q d3q) (.slice B4q m4q d4q)
     have R9 : Row W9 gA 27 [.slice B1q m1q d1q, .int .i64 D'.hor, .int .i64 D'.now, .slice B2q m2q d2q, .slice B3q m3q d3q, .slice B4q m4q d4q] := by rw [hW9]; exact HRp8.out.put6 _ _ _ _ _ _
     rw [<- hW9]
     clear hW9
     exact ⟨⟨j+1, D', by go_num, by omega, hide ⟨B1q, B2q, B3q, B4q, m1q, m2q, m3q, m4q, d1q, d2q, d3q, d4q, R9, K8.out.box (IsBox.book HRp8.out) oo9⟩, HS', HPW', hide ((HBo.out.later L8.out).other (IsBox.book HRp8.out) HNB.out oo9), hide ((HL.out.trans L8.out).only oo9 HGA.out)⟩, by simp [intOf]; omega⟩
    refine AllReadyN.held rfl (by rfl) (fun K hK => ?_) AllReadyN.nil
    go_simp
    obtain ⟨g8, hg8⟩ : ∃ g, g = wr.heap.size := ⟨_, rfl⟩
    rw [<- hg8]
    have hgl : wr.heap.size <= g8 := by rw [hg8]; exact Nat.le_refl _
    have HZ8 : Hid (Row (wr.drew.alloc (Obj.cells #[Value.slice none 0 0, Value.int .i64 0, Value.int .i64 0, Value.slice none 0 0, Value.slice none 0 0, Value.slice none 0 0] 27)) g8 27 [.slice none 0 0, .int .i64 0, .int .i64 0, .slice none 0 0, .slice none 0 0, .slice none 0 0]) := hide (by rw [hg8]; exact Row.new wr.drew _ _)
    clear hg8
    refine hK.out _ _ ?_ (fun hHeld => ?_)
    ·exact HT1.out _ lt_
    clear hK K
    try simp only [Act.put, s1_, s2_, s3_]
    refine wpAnyN_ready (rs := [6]) (by kernel_rfl) (by simp) ?_
    refine AllReadyN.held rfl (by rfl) (fun K hK => ?_) AllReadyN.nil
    go_simp
    refine (HCA.out _ lt_).mono ?_
    rintro e a5 h1
    unfold CauP at h1
    dsimp only at h1
    obtain ⟨b5, hm5, B1q, B2q, B3q, B4q, m1q, m2q, m3q, m4q, d1q, d2q, d3q, d4q, rfl, hk5⟩ := h1
    have HK5 := hide hk5; have HM5 := hide hm5
    clear hk5 hm5
    have hz8 := HZ8.out.later b5
    have q0 := hz8.cell (i := 0) rfl; have qz0 := hz8.frozen 0; have q1 := hz8.cell (i := 1) rfl; have qz1 := hz8.frozen 1; have q2 := hz8.cell (i := 2) rfl; have qz2 := hz8.frozen 2; have q3 := hz8.cell (i := 3) rfl; have qz3 := hz8.frozen 3; have q4 := hz8.cell (i := 4) rfl; have qz4 := hz8.frozen 4; have q5 := hz8.cell (i := 5) rfl; have qz5 := hz8.frozen 5
    have HZ9 := hide hz8
    clear hz8
    have l5 : Later wr a5 := Later.trans lt_ b5
    refine hK.out _ _ ?_ (fun hHeld => ?_)
    ·exact HT1.out _ lt_
    clear hK K
    try simp only [Act.put, s1_, s2_, s3_]
    refine tkB 34 7 ?_
    refine tkB 42 8 ?_
    refine tkB 43 9 ?_
    refine wpAnyN_ready (rs := [11]) (by kernel_rfl) (by simp) ?_
    refine AllReadyN.held rfl (by rfl) (fun K hK => ?_) AllReadyN.nil
    go_simp
    refine hK.out _ _ ?_ (fun hHeld => ?_)
    ·exact HT1.out _ (Later.setCell (Later.setCell (Later.setCell (Later.setCell (Later.setCell (Later.setCell l5 hgl _) hgl _) hgl _) hgl _) hgl _) hgl _)
    clear hK K
    try simp only [Act.put, s1_, s2_, s3_]
    refine tkB 9 12 ?_
    refine wpAnyN_done (by kernel_rfl) ?_ _
    clear hHeld
    obtain ⟨W8, hW8⟩ : ∃ W, W = ((((((a5.setCell ⟨g8, 0, none⟩ (.slice B1q m1q d1q)).setCell ⟨g8, 1, none⟩ (.int .i64 D'.hor)).setCell ⟨g8, 2, none⟩ (.int .i64 D'.now)).setCell ⟨g8, 3, none⟩ (.slice B2q m2q d2q)).setCell ⟨g8, 4, none⟩ (.slice B3q m3q d3q)).setCell ⟨g8, 5, none⟩ (.slice B4q m4q d4q)) := ⟨_, rfl⟩
    have oo8 : Only g8 a5 W8 := by rw [hW8]; exact only6 g8 (.slice B1q m1q d1q) (.int .i64 D'.hor) (.int .i64 D'.now) (.slice B2q m2q d2q) (.slice B3q m3q d3q) (.slice B4q m4q d4q)
    have R8 : Hid (Row W8 g8 27 [.slice B1q m1q d1q, .int .i64 D'.hor, .int .i64 D'.now, .slice B2q m2q d2q, .slice B3q m3q d3q, .slice B4q m4q d4q]) := hide (by rw [hW8]; exact HZ9.out.put6 _ _ _ _ _ _)
    have L8 : Hid (Later wr W8) := hide (Later.only l5 oo8 hgl)
    have HG8 := hide hgl
    have K8 : Hid (BkN w.heap.size W8 (.slice B1q m1q d1q) (.slice B2q m2q d2q) (.slice B3q m3q d3q) (.slice B4q m4q d4q) D') := hide (((HK5.out.weaken (HL.out.drew.alloc _).size)).box (IsBox.book HZ9.out) oo8)
    rw [<- hW8]
    clear hW8 oo8 q0 q1 q2 q3 q4 q5 qz0 qz1 qz2 qz3 qz4 qz5 l5 b5 HZ9 hgl
    have rp8 := HRp.out.later L8.out
    have x0 := (R8.out.later (Later.refl _)).cell (i := 0) rfl; have x1 := (R8.out.later (Later.refl _)).cell (i := 1) rfl; have x2 := (R8.out.later (Later.refl _)).cell (i := 2) rfl; have x3 := (R8.out.later (Later.refl _)).cell (i := 3) rfl; have x4 := (R8.out.later (Later.refl _)).cell (i := 4) rfl; have x5 := (R8.out.later (Later.refl _)).cell (i := 5) rfl
    have k0 := rp8.cell (i := 0) rfl; have kz0 := rp8.frozen 0; have k1 := rp8.cell (i := 1) rfl; have kz1 := rp8.frozen 1; have k2 := rp8.cell (i := 2) rfl; have kz2 := rp8.frozen 2; have k3 := rp8.cell (i := 3) rfl; have kz3 := rp8.frozen 3; have k4 := rp8.cell (i := 4) rfl; have kz4 := rp8.frozen 4; have k5 := rp8.cell (i := 5) rfl; have kz5 := rp8.frozen 5
    have HRp8 := hide rp8
    clear rp8
    go_wp2_with fail
    obtain ⟨W9, hW9⟩ : ∃ W, W = ((((((W8.setCell ⟨gA, 0, none⟩ (.slice B1q m1q d1q)).setCell ⟨gA, 1, none⟩ (.int .i64 D'.hor)).setCell ⟨gA, 2, none⟩ (.int .i64 D'.now)).setCell ⟨gA, 3, none⟩ (.slice B2q m2q d2q)).setCell ⟨gA, 4, none⟩ (.slice B3q m3q d3q)).setCell ⟨gA, 5, none⟩ (.slice B4q m4q d4q)) := ⟨_, rfl⟩
    have oo9 : Only gA W8 W9 := by rw [hW9]; exact only6 gA (.slice B1q m1q d1q) (.int .i64 D'.hor) (.int .i64 D'.now) (.slice B2q m2q d2q) (.slice B3q m3q d3q) (.slice B4q m4q d4q)
    have R9 : Row W9 gA 27 [.slice B1q m1q d1q, .int .i64 D'.hor, .int .i64 D'.now, .slice B2q m2q d2q, .slice B3q m3q d3q, .slice B4q m4q d4q] := by rw [hW9]; exact HRp8.out.put6 _ _ _ _ _ _
    rw [<- hW9]
    clear hW9
    exact ⟨⟨j+1, D', by go_num, by omega, hide ⟨B1q, B2q, B3q, B4q, m1q, m2q, m3q, m4q, d1q, d2q, d3q, d4q, R9, K8.out.box (IsBox.book HRp8.out) oo9⟩, HS', HPW', hide ((HBo.out.later L8.out).other (IsBox.book HRp8.out) HNB.out oo9), hide ((HL.out.trans L8.out).only oo9 HGA.out)⟩, by simp [intOf]; omega⟩
  | error c =>
    refine wp_region_N (fun w' => w'.cell? ⟨gA, 0, none⟩ = some (.slice B1p m1p d1p) /\ w'.cell? ⟨gA, 1, none⟩ = some (.int .i64 D.hor) /\ w'.cell? ⟨gA, 2, none⟩ = some (.int .i64 D.now) /\ w'.cell? ⟨gA, 3, none⟩ = some (.slice B2p m2p d2p) /\ w'.cell? ⟨gA, 4, none⟩ = some (.slice B3p m3p d3p) /\ w'.cell? ⟨gA, 5, none⟩ = some (.slice B4p m4p d4p) /\ w'.cell? ⟨b1, off1 + j * 4, none⟩ = some (.int .i64 o.id) /\ w'.cell? ⟨b1, off1 + j * 4 + 1, none⟩ = some (.int .i64 o.item) /\ w'.cell? ⟨b1, off1 + j * 4 + 2, none⟩ = some (.int .i64 o.due) /\ w'.cell? ⟨b1, off1 + j * 4 + 3, none⟩ = some (.int .i64 o.qty)) [] hmx (HT1.out _ lt_) (fun hHeld => ?_)
    refine tkB 35 0 ?_
    refine tkB 36 1 ?_
    refine tkB 37 2 ?_
    refine tkB 38 3 ?_
    refine tkB 39 4 ?_
    refine tkB 40 5 ?_
    refine wpAnyN_ready (rs := [6, 10]) (by kernel_rfl) (by simp) ?_
    refine AllReadyN.held rfl (by rfl) (fun K hK => ?_) ?_
    ·go_simp
     refine (HCA.out _ lt_).mono ?_
     rintro e a5 ⟨b5, rfl⟩
     have l5 : Later wr a5 := Later.trans lt_ b5
     refine hK.out _ _ ?_ (fun hHeld => ?_)
     ·exact HT1.out _ lt_
     clear hK K
     try simp only [Act.put, s1_, s2_, s3_]
     refine tkB 34 7 ?_
     refine tkB 42 8 ?_
     refine tkB 43 9 ?_
     refine wpAnyN_ready (rs := [10]) (by kernel_rfl) (by simp) ?_
     refine AllReadyN.held rfl (by rfl) (fun K hK => ?_) AllReadyN.nil
     go_simp
     obtain ⟨g8, hg8⟩ : ∃ g, g = a5.heap.size := ⟨_, rfl⟩
     rw [<- hg8]
     have hgl : wr.heap.size <= g8 := by rw [hg8]; exact l5.size
     have hz8 : Row (a5.alloc (Obj.cells #[Value.slice none 0 0, Value.int .i64 0, Value.int .i64 0, Value.slice none 0 0, Value.slice none 0 0, Value.slice none 0 0] 27)) g8 27 [.slice none 0 0, .int .i64 0, .int .i64 0, .slice none 0 0, .slice none 0 0, .slice none 0 0] := by rw [hg8]; exact Row.new _ _ _
     have q0 := hz8.cell (i := 0) rfl; have qz0 := hz8.frozen 0; have q1 := hz8.cell (i := 1) rfl; have qz1 := hz8.frozen 1; have q2 := hz8.cell (i := 2) rfl; have qz2 := hz8.frozen 2; have q3 := hz8.cell (i := 3) rfl; have qz3 := hz8.frozen 3; have q4 := hz8.cell (i := 4) rfl; have qz4 := hz8.frozen 4; have q5 := hz8.cell (i := 5) rfl; have qz5 := hz8.frozen 5
     have HZ9 := hide hz8
     clear hz8 hg8
     refine hK.out _ _ ?_ (fun hHeld => ?_)
     ·exact HT1.out _ lt_
     clear hK K
     try simp only [Act.put, s1_, s2_, s3_]
     refine wpAnyN_ready (rs := [11]) (by kernel_rfl) (by simp) ?_
     refine AllReadyN.held rfl (by rfl) (fun K hK => ?_) AllReadyN.nil
     go_simp
     refine hK.out _ _ ?_ (fun hHeld => ?_)
     ·exact HT1.out _ (Later.setCell (Later.setCell (Later.setCell (Later.setCell (Later.setCell (Later.setCell (l5.alloc _) hgl _) hgl _) hgl _) hgl _) hgl _) hgl _)
     clear hK K
     try simp only [Act.put, s1_, s2_, s3_]
     refine tkB 9 12 ?_
     refine wpAnyN_done (by kernel_rfl) ?_ _
     clear hHeld
     obtain ⟨W8, hW8⟩ : ∃ W, W = (((((((a5.alloc (Obj.cells #[Value.slice none 0 0, Value.int .i64 0, Value.int .i64 0, Value.slice none 0 0, Value.slice none 0 0, Value.slice none 0 0] 27)).setCell ⟨g8, 0, none⟩ (.slice none 0 0)).setCell ⟨g8, 1, none⟩ (.int .i64 0)).setCell ⟨g8, 2, none⟩ (.int .i64 0)).setCell ⟨g8, 3, none⟩ (.slice none 0 0)).setCell ⟨g8, 4, none⟩ (.slice none 0 0)).setCell ⟨g8, 5, none⟩ (.slice none 0 0)) := ⟨_, rfl⟩
     have oo8 : Only g8 (a5.alloc (Obj.cells #[Value.slice none 0 0, Value.int .i64 0, Value.int .i64 0, Value.slice none 0 0, Value.slice none 0 0, Value.slice none 0 0] 27)) W8 := by rw [hW8]; exact only6 g8 (.slice none 0 0) (.int .i64 0) (.int .i64 0) (.slice none 0 0) (.slice none 0 0) (.slice none 0 0)
     have R8 : Hid (Row W8 g8 27 [.slice none 0 0, .int .i64 0, .int .i64 0, .slice none 0 0, .slice none 0 0, .slice none 0 0]) := hide (by rw [hW8]; exact HZ9.out.put6 _ _ _ _ _ _)
     have L8 : Hid (Later wr W8) := hide (Later.only (l5.alloc _) oo8 hgl)
     have HG8 := hide hgl
     rw [<- hW8]
     clear hW8 oo8 q0 q1 q2 q3 q4 q5 qz0 qz1 qz2 qz3 qz4 qz5 l5 b5 HZ9 hgl
     have t4 : (c != 0) = true := by simpa using apply_err HR.out
     have t5 : (c == 0) = false := by simpa using apply_err HR.out
     have t6 : decide (c = 0) = false := by simpa using apply_err HR.out
     go_wp2_with fail
     go_ret
     exact ⟨rfl, HL.out.trans L8.out⟩
    refine AllReadyN.held rfl (by rfl) (fun K hK => ?_) AllReadyN.nil
    go_simp
    obtain ⟨g8, hg8⟩ : ∃ g, g = wr.heap.size := ⟨_, rfl⟩
    rw [<- hg8]
    have hgl : wr.heap.size <= g8 := by rw [hg8]; exact Nat.le_refl _
    have HZ8 : Hid (Row (wr.drew.alloc (Obj.cells #[Value.slice none 0 0, Value.int .i64 0, Value.int .i64 0, Value.slice none 0 0, Value.slice none 0 0, Value.slice none 0 0] 27)) g8 27 [.slice none 0 0, .int .i64 0, .int .i64 0, .slice none 0 0, .slice none 0 0, .slice none 0 0]) := hide (by rw [hg8]; exact Row.new wr.drew _ _)
    clear hg8
    refine hK.out _ _ ?_ (fun hHeld => ?_)
    ·exact HT1.out _ lt_
    clear hK K
    try simp only [Act.put, s1_, s2_, s3_]
    refine wpAnyN_ready (rs := [6]) (by kernel_rfl) (by simp) ?_
    refine AllReadyN.held rfl (by rfl) (fun K hK => ?_) AllReadyN.nil
    go_simp
    refine (HCA.out _ lt_).mono ?_
    rintro e a5 ⟨b5, rfl⟩
    have hz8 := HZ8.out.later b5
    have q0 := hz8.cell (i := 0) rfl; have qz0 := hz8.frozen 0; have q1 := hz8.cell (i := 1) rfl; have qz1 := hz8.frozen 1; have q2 := hz8.cell (i := 2) rfl; have qz2 := hz8.frozen 2; have q3 := hz8.cell (i := 3) rfl; have qz3 := hz8.frozen 3; have q4 := hz8.cell (i := 4) rfl; have qz4 := hz8.frozen 4; have q5 := hz8.cell (i := 5) rfl; have qz5 := hz8.frozen 5
    have HZ9 := hide hz8
    clear hz8
    have l5 : Later wr a5 := Later.trans lt_ b5
    refine hK.out _ _ ?_ (fun hHeld => ?_)
    ·exact HT1.out _ lt_
    clear hK K
    try simp only [Act.put, s1_, s2_, s3_]
    refine tkB 34 7 ?_
    refine tkB 42 8 ?_
    refine tkB 43 9 ?_
    refine wpAnyN_ready (rs := [11]) (by kernel_rfl) (by simp) ?_
    refine AllReadyN.held rfl (by rfl) (fun K hK => ?_) AllReadyN.nil
    go_simp
    refine hK.out _ _ ?_ (fun hHeld => ?_)
    ·exact HT1.out _ (Later.setCell (Later.setCell (Later.setCell (Later.setCell (Later.setCell (Later.setCell l5 hgl _) hgl _) hgl _) hgl _) hgl _) hgl _)
    clear hK K
    try simp only [Act.put, s1_, s2_, s3_]
    refine tkB 9 12 ?_
    refine wpAnyN_done (by kernel_rfl) ?_ _
    clear hHeld
    obtain ⟨W8, hW8⟩ : ∃ W, W = ((((((a5.setCell ⟨g8, 0, none⟩ (.slice none 0 0)).setCell ⟨g8, 1, none⟩ (.int .i64 0)).setCell ⟨g8, 2, none⟩ (.int .i64 0)).setCell ⟨g8, 3, none⟩ (.slice none 0 0)).setCell ⟨g8, 4, none⟩ (.slice none 0 0)).setCell ⟨g8, 5, none⟩ (.slice none 0 0)) := ⟨_, rfl⟩
    have oo8 : Only g8 a5 W8 := by rw [hW8]; exact only6 g8 (.slice none 0 0) (.int .i64 0) (.int .i64 0) (.slice none 0 0) (.slice none 0 0) (.slice none 0 0)
    have R8 : Hid (Row W8 g8 27 [.slice none 0 0, .int .i64 0, .int .i64 0, .slice none 0 0, .slice none 0 0, .slice none 0 0]) := hide (by rw [hW8]; exact HZ9.out.put6 _ _ _ _ _ _)
    have L8 : Hid (Later wr W8) := hide (Later.only l5 oo8 hgl)
    have HG8 := hide hgl
    rw [<- hW8]
    clear hW8 oo8 q0 q1 q2 q3 q4 q5 qz0 qz1 qz2 qz3 qz4 qz5 l5 b5 HZ9 hgl
    have t4 : (c != 0) = true := by simpa using apply_err HR.out
    have t5 : (c == 0) = false := by simpa using apply_err HR.out
    have t6 : decide (c = 0) = false := by simpa using apply_err HR.out
    go_wp2_with fail
    go_ret
    exact ⟨rfl, HL.out.trans L8.out⟩
end Go.Proofs.YtncbebfhakcgdaaGreat
namespace Go.Proofs.YtncbebfhakcgdaaGreat
open Go.RowKit Go.Shelf Go.ChangeShapes Go.WideShapes Go.Deep
section
variable {H : Type} {enc : TypeId × Value -> H} {w : World} {base : Nat} {spare : Nat -> Bool} {held : Bool}
theorem arg_ords {r : Reach} {b0 : Nat} {v : Value} {d : DataW H} {p : List MemPlace} (hv : Value.okWide Tryz.prog w r b0 24 v) (h : DataW.Trod enc Tryz.prog w base spare held 24 v d p) : ArgOrds w v := by
 obtain ⟨A, n, c, rfl⟩ := okWide_slice Tryz.underlying24 hv
 obtain ⟨fuel, hf⟩ := h
 obtain ⟨A', n', c', l, e, hl, hk⟩ := recs_open (en := oCells) (ok := POrd.fit) Tryz.underlying24 cellsOrder (by omega) (fun _ => rfl) (fun h => ord_open h) hf
 simp [Value.cells] at e
 obtain ⟨rfl, rfl, rfl⟩ := e
 exact ⟨_, _, _, _, rfl, hl, hk⟩
end
end Go.Proofs.YtncbebfhakcgdaaGreat
