/- BookStory: the walk. -/
import Derived.Test.YtncbebfhakcgdaaGreatS28
import Derived.Test.YtncbebfhakcgdaaGreatS7
set_option linter.unusedVariables false
set_option linter.unusedSimpArgs false
set_option maxRecDepth 100000
namespace Go.Proofs.YtncbebfhakcgdaaGreat
open Go.RowKit Go.Shelf
attribute [local go_sem ↓] Go.wp_at_zero Go.wp_at_succ
set_option maxHeartbeats 4000000 in
theorem fewop_calls (w : World) (Aq : Option Addr) (nq cq : Nat) (o : POp) (u : Bool) (hu : decide (nq <= 100) = u) :
 Calls Tryz.prog 11 #[.agg #[.int .i64 o.kind, .int .i64 o.ord.id, .int .i64 o.ord.item, .int .i64 o.ord.due, .int .i64 o.ord.qty, .int .i64 o.id, .int .i64 o.period, .int .i64 o.qty, .slice Aq nq cq]] w (RetV w (.bool u)) := by
 have HU := hide hu
 clear hu
 obtain ⟨W0, hW0⟩ : ∃ W0, W0 = (w.alloc (Obj.cells #[Value.int .i64 o.kind, Value.int .i64 o.ord.id, Value.int .i64 o.ord.item, Value.int .i64 o.ord.due, Value.int .i64 o.ord.qty, Value.int .i64 o.id, Value.int .i64 o.period, Value.int .i64 o.qty, Value.slice Aq nq cq] 31)) := ⟨_, rfl⟩
 have B0 := hide (show Later w W0 by rw [hW0]; exact (Later.refl _).alloc _)
 have HR0 := hide (show Row W0 w.heap.size 31 [.int .i64 o.kind, .int .i64 o.ord.id, .int .i64 o.ord.item, .int .i64 o.ord.due, .int .i64 o.ord.qty, .int .i64 o.id, .int .i64 o.period, .int .i64 o.qty, .slice Aq nq cq] by rw [hW0]; exact Row.new _ _ _)
 have HW0 := hide hW0
 clear hW0
 go_enter Tryz.func11, Tryz.ntmps11
 go_upto_region 1 with fail
 rw [<- HW0.out]
 have x8 := HR0.out.cell (i := 8) rfl
 have hu := HU.out
 go_wp2_with fail
 go_ret
 exact ⟨by first | rfl | (rw [<- HU.out]; simp; omega), B0.out⟩
theorem items_of_ok {D D' : PBook} {o : POp} {it : List PItem} {h : Int} (e : applyV D o = .ok D') (hi : D.items = it /\ D.hor = h) : D'.items = it /\ D'.hor = h := by
 have h1 := apply_items e
 exact ⟨h1.1.trans hi.1, h1.2.trans hi.2⟩
set_option maxHeartbeats 2000000 in
theorem bookstory_walk (w : World) (v : Value) (z : Int) (wz : (Lit.int .u8 z).wf = true) (h0 : ArgOps w v) :
 Calls Tryz.prog 5 #[.int .u8 z, v] w (RetV w (.bool true)) := by
 have hz : 0 <= z /\ z <= 255 := by simpa [Lit.wf, IntKind.min, IntKind.max, IntKind.bits, IntKind.signed] using wz
 have HZ := hide hz
 clear wz hz
 obtain ⟨As, n, cs, l, rfl, hops, hfits⟩ := h0
 have HOP := hide hops; have HFT := hide hfits
 have hnl : n = l.length := by
  obtain ⟨_, _, _, e, e2, -⟩ := hops.form
  injection e with _ e3 _; omega
 have HNL := hide hnl
 obtain ⟨D1, hD1⟩ : ∃ D, D = newD (itemsN z) 2 := ⟨_, rfl⟩
 have HDD : Hid (newD (itemsN z) 2 = D1) := hide hD1.symm
 have hmay1 : MayP D1 := by rw [hD1]; exact itm_may _ (by omega) (by omega)
 have HSB : Hid (StoB D1) := hide (by rw [hD1]; rw [hD1] at hmay1; exact whole_new hmay1.head)
 have HN1 : Hid (∀ W A n c, Its 12 W (.slice A n c) (itemsN z) -> Calls Tryz.prog 14 #[.slice A n c, .int .i64 2] W (CauP W (.ok D1))) := hide (fun W A n c hI => by
  have h2 := new_calls W A n c (itemsN z) 2 hI (by unfold itemsN; rw [List.length_replicate]; omega) (by unfold IFit; omega)
  rw [new_items, <- hD1] at h2; exact h2)
 have HI1 : Hid (D1.items = itemsN z /\ D1.hor = 2) := hide (by rw [hD1]; exact ⟨rfl, rfl⟩)
 clear hops hfits hnl hD1 hmay1
 go_enter Tryz.func5, Tryz.ntmps5
 go_upto_region 4 with (first | (go_at_call 9; (with_reducible refine (awake20_calls _).mono ?_); rintro e a0 ⟨rfl, b0⟩) | (go_at_call 24; (with_reducible refine (items20_calls _ z HZ.out).mono ?_); rintro e ai ⟨Ai, ni, ci, rfl, hi, bi⟩) | (go_at_call 14; (refine (HN1.out _ _ _ _ hi).mono ?_); rintro e a1 h1; unfold CauP at h1; dsimp only at h1; obtain ⟨b1, hm1, B1a, B2a, B3a, B4a, m1a, m2a, m3a, m4a, d1a, d2a, d3a, d4a, rfl, hk1⟩ := h1))
 obtain ⟨W1, hW1⟩ : ∃ W1, W1 = a1.alloc (Obj.cells #[Value.slice B1a m1a d1a, Value.int .i64 D1.hor, Value.int .i64 D1.now, Value.slice B2a m2a d2a, Value.slice B3a m3a d3a, Value.slice B4a m4a d4a] 27) := ⟨_, rfl⟩
 obtain ⟨gB, hgB⟩ : ∃ gB, gB = a1.heap.size := ⟨_, rfl⟩
 have bW1 : Later a1 W1 := by rw [hW1]; exact (Later.refl _).alloc _
 have rgB : Row W1 gB 27 [.slice B1a m1a d1a, .int .i64 D1.hor, .int .i64 D1.now, .slice B2a m2a d2a, .slice B3a m3a d3a, .slice B4a m4a d4a] := by rw [hW1, hgB]; exact Row.new _ _ _
 rw [<- hW1, <- hgB]
 have HL1 := hide (b0.trans (bi.trans (b1.trans bW1)))
 have HB1 : Hid (BkAt w.heap.size W1 gB D1) := hide ⟨B1a, B2a, B3a, B4a, m1a, m2a, m3a, m4a, d1a, d2a, d3a, d4a, rgB, (hk1.weaken (b0.trans bi).size).later bW1⟩
 have HGB : Hid (w.heap.size <= gB) := hide (by rw [hgB]; exact (b0.trans (bi.trans b1)).size)
 clear hW1 hgB b0 bi b1 bW1 rgB hk1 hm1 hi
 go_wp2_with fail
 go_loopw [7] (fun iv wr => ∃ (j : Nat) (D : PBook), iv = .int .i64 (j : Int) /\ j <= 60 /\ Hid (BkAt w.heap.size wr gB D) /\ Hid (StoB D) /\ Hid (D.items = itemsN z /\ D.hor = 2) /\ Hid (Later w wr)) (fun iv _ => (60 - intOf iv).toNat)
 case atStart => exact ⟨0, D1, rfl, Nat.zero_le _, HB1, HSB, HI1, HL1⟩
 case round =>
  obtain ⟨j, D, rfl, hj, HB, HS, HI, HL⟩ := hrel
  by_cases hjn : j < n
  rotate_left
  ·have t1 : decide (j < n) = false := by simpa using hjn
   obtain ⟨B1p, B2p, B3p, B4p, m1p, m2p, m3p, m4p, d1p, d2p, d3p, d4p, hRp, hKp⟩ := HB.out
   have HRp := hide hRp; have HKp := hide hKp
   clear hRp hKp
   have x0 := (HRp.out.later (Later.refl _)).cell (i := 0) rfl; have x1 := (HRp.out.later (Later.refl _)).cell (i := 1) rfl; have x2 := (HRp.out.later (Later.refl _)).cell (i := 2) rfl; have x3 := (HRp.out.later (Later.refl _)).cell (i := 3) rfl; have x4 := (HRp.out.later (Later.refl _)).cell (i := 4) rfl; have x5 := (HRp.out.later (Later.refl _)).cell (i := 5) rfl
   go_upto_region 15 with (go_at_call 25; (refine (story_calls _ B1p B2p B3p B4p m1p m2p m3p m4p d1p d2p d3p d4p D HS.out (HKp.out.book (fit_of_may HS.out.may))).mono ?_); rintro e a6 h6; unfold StoryP at h6; obtain ⟨A6, n6, c6, rfl, ho6, b6⟩ := h6; have hn6 : n6 = (tellV D).length := (by obtain ⟨_, _, _, ee, e2, -⟩ := ho6.ops.form; injection ee with _ e3 _; omega); have HN6 := hide hn6; have HO6 := hide ho6; clear hn6 ho6)
   have h150 : n6 <= 150 := by have h1 := HN6.out; have h2 := tell_len HS.out.may; omega
   have HLa := hide (HL.out.trans b6); have b6' := hide b6
   have HOa : Hid (OutOps w.heap.size a6 (.slice A6 n6 c6) (tellV D)) := hide (HO6.out.weaken HL.out.size)
   have HBa := hide (HB.out.later b6)
   clear b6 x0 x1 x2 x3 x4 x5 HO6 HRp HKp
   go_upto_region 16 with (first | (go_at_call 24; (with_reducible refine (items20_calls _ z HZ.out).mono ?_); rintro e ai ⟨Ai, ni, ci, rfl, hi, bi⟩) | (go_at_call 14; (refine (HN1.out _ _ _ _ hi).mono ?_); rintro e a15 h1; unfold CauP at h1; dsimp only at h1; obtain ⟨b15, hm15, B1n, B2n, B3n, B4n, m1n, m2n, m3n, m4n, d1n, d2n, d3n, d4n, rfl, hk15⟩ := h1))
   obtain ⟨W2, hW2⟩ : ∃ W2, W2 = a15.alloc (Obj.cells #[Value.slice B1n m1n d1n, Value.int .i64 D1.hor, Value.int .i64 D1.now, Value.slice B2n m2n d2n, Value.slice B3n m3n d3n, Value.slice B4n m4n d4n] 27) := ⟨_, rfl⟩
   obtain ⟨gN, hgN⟩ : ∃ gN, gN = a15.heap.size := ⟨_, rfl⟩
   have bW2 : Later a15 W2 := by rw [hW2]; exact (Later.refl _).alloc _
   have rgN : Row W2 gN 27 [.slice B1n m1n d1n, .int .i64 D1.hor, .int .i64 D1.now, .slice B2n m2n d2n, .slice B3n m3n d3n, .slice B4n m4n d4n] := by rw [hW2, hgN]; exact Row.new _ _ _
   rw [<- hW2, <- hgN]
   have HGN : Hid (w.heap.size <= gN) := hide (by rw [hgN]; exact (HLa.out.trans (bi.trans b15)).size)
   have HNB : Hid (gB ≠ gN) := hide (by
    have h1 := HB.out.isBox.ex
    obtain ⟨T, cs, hrow, -⟩ := h1
    have h2 := hrow.lt
    have h3 := ((HLa.out.trans (bi.trans b15)).size)
    have h4 := (b6'.out.trans (bi.trans b15)).size
    rw [hgN]; omega)
   have HL2 := hide (HLa.out.trans (bi.trans (b15.trans bW2)))
   have HBn : Hid (BkAt w.heap.size W2 gN D1) := hide ⟨B1n, B2n, B3n, B4n, m1n, m2n, m3n, m4n, d1n, d2n, d3n, d4n, rgN, (hk15.weaken (HLa.out.trans bi).size).later bW2⟩
   have HOn := hide (HOa.out.later (bi.trans (b15.trans bW2)))
   have HBb0 := hide (HBa.out.later (bi.trans (b15.trans bW2)))
   clear hW2 hgN bi b15 bW2 rgN hk15 hi
   have HRUN := hide (tell_run HS.out)
   have HD1 : Hid (newD D.items D.hor = D1) := hide (by rw [HI.out.1, HI.out.2, HDD.out])
   rw [HD1.out] at HRUN
   have HFT2 := hide (tell_fit HS.out.may)
   obtain ⟨tl, htl⟩ : ∃ tl, tl = tellV D := ⟨_, rfl⟩
   rw [<- htl] at HRUN HFT2 HOn HN6
   have hmay1 := hide hm15
   clear htl hm15
   go_wp2_with fail
   go_loopw [14] (fun iv wr => ∃ (j : Nat) (E : PBook), iv = .int .i64 (j : Int) /\ j <= n6 /\ Hid (runV D1 (tl.take j) = .ok E) /\ Hid (BkAt w.heap.size wr gN E) /\ Hid (MayP E) /\ Hid (OutOps w.heap.size wr (.slice A6 n6 c6) tl) /\ Hid (BkAt w.heap.size wr gB D) /\ Hid (Later w wr)) (fun iv _ => (n6 - intOf iv).toNat)
   case atStart => exact ⟨0, D1, rfl, Nat.zero_le _, hide rfl, HBn, hmay1, HOn, HBb0, HL2⟩
   case round =>
    obtain ⟨j, E, rfl, hj, HRE, HEB, HME, HO, HBb, HL⟩ := hrel
    obtain ⟨B1p, B2p, B3p, B4p, m1p, m2p, m3p, m4p, d1p, d2p, d3p, d4p, hRp, hKp⟩ := HEB.out
    have HRp := hide hRp; have HKp := hide hKp
    by_cases hjn : j < n6
    ·obtain ⟨o, ho⟩ : ∃ o, tl[j]? = some o := ⟨tl[j]'(by have := HN6.out; omega), List.getElem?_eq_getElem _⟩
     obtain ⟨b1, off1, rfl, Aq, nq, cq, hqq, y0, y1, y2, y3, y4, y5, y6, y7, y8⟩ := HO.out.ops.at9 ho
     obtain ⟨D', ha, hE'⟩ := runV_step HRUN.out ho HRE.out
     have HA := hide ha; have HE' := hide hE'
     have hj0 : (0 : Int) <= (j : Int) := by omega
     have hj1 : (j : Int) < n6 := by omega
     have hfo := HFT2.out o (List.mem_of_getElem? ho)
     have HCA : Hid (∀ W, Later wr W -> Calls Tryz.prog 12 #[.agg #[.slice B1p m1p d1p, .int .i64 E.hor, .int .i64 E.now, .slice B2p m2p d2p, .slice B3p m3p d3p, .slice B4p m4p d4p], .agg #[.int .i64 o.kind, .int .i64 o.ord.id, .int .i64 o.ord.item, .int .i64 o.ord.due, .int .i64 o.ord.qty, .int .i64 o.id, .int .i64 o.period, .int .i64 o.qty, .slice Aq nq cq]] W (CauP W (.ok D'))) := hide (fun W hW => by
      have h2 := apply_calls W B1p B2p B3p B4p Aq m1p m2p m3p m4p nq d1p d2p d3p d4p cq E o ((hKp.later hW).book (fit_of_may HME.out)) hfo.1 (hqq.later hW) hfo.2
      rw [ha] at h2; exact h2)
     have HT1 : Hid (∀ w', Later wr w' -> w'.cell? ⟨gN, 0, none⟩ = some (.slice B1p m1p d1p) /\ w'.cell? ⟨gN, 1, none⟩ = some (.int .i64 E.hor) /\ w'.cell? ⟨gN, 2, none⟩ = some (.int .i64 E.now) /\ w'.cell? ⟨gN, 3, none⟩ = some (.slice B2p m2p d2p) /\ w'.cell? ⟨gN, 4, none⟩ = some (.slice B3p m3p d3p) /\ w'.cell? ⟨gN, 5, none⟩ = some (.slice B4p m4p d4p) /\ w'.cell? ⟨b1, off1 + j * 9, none⟩ = some (.int .i64 o.kind) /\ w'.cell? ⟨b1, off1 + j * 9 + 1, none⟩ = some (.int .i64 o.ord.id) /\ w'.cell? ⟨b1, off1 + j * 9 + 2, none⟩ = some (.int .i64 o.ord.item) /\ w'.cell? ⟨b1, off1 + j * 9 + 3, none⟩ = some (.int .i64 o.ord.due) /\ w'.cell? ⟨b1, off1 + j * 9 + 4, none⟩ = some (.int .i64 o.ord.qty) /\ w'.cell? ⟨b1, off1 + j * 9 + 5, none⟩ = some (.int .i64 o.id) /\ w'.cell? ⟨b1, off1 + j * 9 + 6, none⟩ = some (.int .i64 o.period) /\ w'.cell? ⟨b1, off1 + j * 9 + 7, none⟩ = some (.int .i64 o.qty) /\ w'.cell? ⟨b1, off1 + j * 9 + 8, none⟩ = some (.slice Aq nq cq)) := hide (fun w' hb => ⟨(hRp.later hb).cell rfl, (hRp.later hb).cell rfl, (hRp.later hb).cell rfl, (hRp.later hb).cell rfl, (hRp.later hb).cell rfl, (hRp.later hb).cell rfl, Later.cell hb y0, Later.cell hb y1, Later.cell hb y2, Later.cell hb y3, Later.cell hb y4, Later.cell hb y5, Later.cell hb y6, Later.cell hb y7, Later.cell hb y8⟩)
     have hmx : Tryz.prog.follows .mixedOrders = true := by kernel_rfl
     clear ho hqq ha hE' hRp hKp hfo y0 y1 y2 y3 y4 y5 y6 y7 y8
     go_upto_region 21 with fail
     refine wp_region_N (fun w' => w'.cell? ⟨gN, 0, none⟩ = some (.slice B1p m1p d1p) /\ w'.cell? ⟨gN, 1, none⟩ = some (.int .i64 E.hor) /\ w'.cell? ⟨gN, 2, none⟩ = some (.int .i64 E.now) /\ w'.cell? ⟨gN, 3, none⟩ = some (.slice B2p m2p d2p) /\ w'.cell? ⟨gN, 4, none⟩ = some (.slice B3p m3p d3p) /\ w'.cell? ⟨gN, 5, none⟩ = some (.slice B4p m4p d4p) /\ w'.cell? ⟨b1, off1 + j * 9, none⟩ = some (.int .i64 o.kind) /\ w'.cell? ⟨b1, off1 + j * 9 + 1, none⟩ = some (.int .i64 o.ord.id) /\ w'.cell? ⟨b1, off1 + j * 9 + 2, none⟩ = some (.int .i64 o.ord.item) /\ w'.cell? ⟨b1, off1 + j * 9 + 3, none⟩ = some (.int .i64 o.ord.due) /\ w'.cell? ⟨b1, off1 + j * 9 + 4, none⟩ = some (.int .i64 o.ord.qty) /\ w'.cell? ⟨b1, off1 + j * 9 + 5, none⟩ = some (.int .i64 o.id) /\ w'.cell? ⟨b1, off1 + j * 9 + 6, none⟩ = some (.int .i64 o.period) /\ w'.cell? ⟨b1, off1 + j * 9 + 7, none⟩ = some (.int .i64 o.qty) /\ w'.cell? ⟨b1, off1 + j * 9 + 8, none⟩ = some (.slice Aq nq cq)) [] hmx (HT1.out _ lt_) (fun hHeld => ?_)
     refine tkB 80 0 ?_
     refine tkB 81 1 ?_
     refine tkB 82 2 ?_
     refine tkB 83 3 ?_
     refine tkB 84 4 ?_
     refine wpAnyN_ready (rs := [5, 9]) (by kernel_rfl) (by simp) ?_
     refine AllReadyN.held rfl (by rfl) (fun K hK => ?_) ?_
     ·go_simp
      refine (HCA.out _ lt_).mono ?_
      rintro e a5 h1
      unfold CauP at h1
      dsimp only at h1
      obtain ⟨b5, hm5, B1q, B2q, B3q, B4q, m1q, m2q, m3q, m4q, d1q, d2q, d3q, d4q, rfl, hk5⟩ := h1
      have HK5 := hide hk5; have HM5 := hide hm5
      clear hk5 hm5
      have l5 : Later wr a5 := Later.trans lt_ b5
      refine hK.out _ _ ?_ (fun hHeld => ?_)
      ·exact HT1.out _ lt_
      clear hK K
      try simp only [Act.put, s1_, s2_, s3_]
      refine tkB 79 6 ?_
      refine tkB 86 7 ?_
      refine tkB 87 8 ?_
      refine wpAnyN_ready (rs := [9]) (by kernel_rfl) (by simp) ?_
      refine AllReadyN.held rfl (by rfl) (fun K hK => ?_) AllReadyN.nil
      go_simp
      obtain ⟨g8, hg8⟩ : ∃ g, g = a5.heap.size := ⟨_, rfl⟩
      rw [<- hg8]
      have hgl : wr.heap.size <= g8 := by rw [hg8]; exact l5.size
      have hz8 : Row (a5.alloc (Obj.cells #[Value.slice none 0 0, Value.int .i64 0, Value.int .i64 0, Value.slice none 0 0, Value.slice none 0 0, Value.slice none 0 0] 27)) g8 27 [.slice none 0 0, .int .i64 0, .int .i64 0, .slice none 0 0, .slice none 0 0, .slice none 0 0] := by rw [hg8]; exact Row.new _ _ _
      have q0 := hz8.cell (i := 0) rfl; have qz0 := hz8.frozen 0; have q1 := hz8.cell (i := 1) rfl; have qz1 := hz8.frozen 1; have q2 := hz8.cell (i := 2) rfl; have qz2 := hz8.frozen 2; have q3 := hz8.cell (i := 3) rfl; have qz3 := hz8.frozen 3; have q4 := hz8.cell (i := 4) rfl; have qz4 := hz8.frozen 4; have q5 := hz8.cell (i := 5) rfl; have qz5 := hz8.frozen 5
      have HZ9 := hide hz8
      clear hz8 hg8
      refine hK.out _ _ ?_ (fun hHeld => ?_)
      ·exact HT1.out _ lt_
      clear hK K
      try simp only [Act.put, s1_, s2_, s3_]
      refine wpAnyN_ready (rs := [10]) (by kernel_rfl) (by simp) ?_
      refine AllReadyN.held rfl (by rfl) (fun K hK => ?_) AllReadyN.nil
      go_simp
      refine hK.out _ _ ?_ (fun hHeld => ?_)
      ·exact HT1.out _ (Later.setCell (Later.setCell (Later.setCell (Later.setCell (Later.setCell (Later.setCell (l5.alloc _) hgl _) hgl _) hgl _) hgl _) hgl _) hgl _)
      clear hK K
      try simp only [Act.put, s1_, s2_, s3_]
      refine tkB 16 11 ?_
      refine wpAnyN_done (by kernel_rfl) ?_ _
      clear hHeld
      obtain ⟨W8, hW8⟩ : ∃ W, W = (((((((a5.alloc (Obj.cells #[Value.slice none 0 0, Value.int .i64 0, Value.int .i64 0, Value.slice none 0 0, Value.slice none 0 0, Value.slice none 0 0] 27)).setCell ⟨g8, 0, none⟩ (.slice B1q m1q d1q)).setCell ⟨g8, 1, none⟩ (.int .i64 D'.hor)).setCell ⟨g8, 2, none⟩ (.int .i64 D'.now)).setCell ⟨g8, 3, none⟩ (.slice B2q m2q d2q)).setCell ⟨g8, 4, none⟩ (.slice B3q m3q d3q)).setCell ⟨g8, 5, none⟩ (.slice B4q m4q d4q)) := ⟨_, rfl⟩
      have oo8 : Only g8 (a5.alloc (Obj.cells #[Value.slice none 0 0, Value.int .i64 0, Value.int .i64 0, Value.slice none 0 0, Value.slice none 0 0, Value.slice none 0 0] 27)) W8 := by rw [hW8]; exact only6 g8 (.slice B1q m1q d1q) (.int .i64 D'.hor) (.int .i64 D'.now) (.slice B2q m2q d2q) (.slice B3q m3q d3q) (.slice B4q m4q d4q)
      have R8 : Hid (Row W8 g8 27 [.slice B1q m1q d1q, .int .i64 D'.hor, .int .i64 D'.now, .slice B2q m2q d2q, .slice B3q m3q d3q, .slice B4q m4q d4q]) := hide (by rw [hW8]; exact HZ9.out.put6 _ _ _ _ _ _)
      have L8 : Hid (Later wr W8) := hide (Later.only (l5.alloc _) oo8 hgl)
      have HG8 := hide hgl
      have K8 : Hid (BkN w.heap.size W8 (.slice B1q m1q d1q) (.slice B2q m2q d2q) (.slice B3q m3q d3q) (.slice B4q m4q d4q) D') := hide (((HK5.out.weaken HL.out.drew.size).later ((Later.refl _).alloc _)).box (IsBox.book HZ9.out) oo8)
      rw [<- hW8]
      clear hW8 oo8 q0 q1 q2 q3 q4 q5 qz0 qz1 qz2 qz3 qz4 qz5 l5 b5 HZ9 hgl
      have rp8 := HRp.out.later L8.out
      have x0 := (R8.out.later (Later.refl _)).cell (i := 0) rfl; have x1 := (R8.out.later (Later.refl _)).cell (i := 1) rfl; have x2 := (R8.out.later (Later.refl _)).cell (i := 2) rfl; have x3 := (R8.out.later (Later.refl _)).cell (i := 3) rfl; have x4 := (R8.out.later (Later.refl _)).cell (i := 4) rfl; have x5 := (R8.out.later (Later.refl _)).cell (i := 5) rfl
      have k0 := rp8.cell (i := 0) rfl; have kz0 := rp8.frozen 0; have k1 := rp8.cell (i := 1) rfl; have kz1 := rp8.frozen 1; have k2 := rp8.cell (i := 2) rfl; have kz2 := rp8.frozen 2; have k3 := rp8.cell (i := 3) rfl; have kz3 := rp8.frozen 3; have k4 := rp8.cell (i := 4) rfl; have kz4 := rp8.frozen 4; have k5 := rp8.cell (i := 5) rfl; have kz5 := rp8.frozen 5
      have HRp8 := hide rp8
      clear rp8
      go_wp2_with fail
      obtain ⟨W9, hW9⟩ : ∃ W, W = ((((((W8.setCell ⟨gN, 0, none⟩ (.slice B1q m1q d1q)).setCell ⟨gN, 1, none⟩ (.int .i64 D'.hor)).setCell ⟨gN, 2, none⟩ (.int .i64 D'.now)).setCell ⟨gN, 3, none⟩ (.slice B2q m2q d2q)).setCell ⟨gN, 4, none⟩ (.slice B3q m3q d3q)).setCell ⟨gN, 5, none⟩ (.slice B4q m4q d4q)) := ⟨_, rfl⟩
      have oo9 : Only gN W8 W9 := by rw [hW9]; exact only6 gN (.slice B1q m1q d1q) (.int .i64 D'.hor) (.int .i64 D'.now) (.slice B2q m2q d2q) (.slice B3q m3q d3q) (.slice B4q m4q d4q)
      have R9 : Row W9 gN 27 [.slice B1q m1q d1q, .int .i64 D'.hor, .int .i64 D'.now, .slice B2q m2q d2q, .slice B3q m3q d3q, .slice B4q m4q d4q] := by rw [hW9]; exact HRp8.out.put6 _ _ _ _ _ _
      rw [<- hW9]
      clear hW9
      exact ⟨⟨j+1, D', by go_num, by omega, HE', hide ⟨B1q, B2q, B3q, B4q, m1q, m2q, m3q, m4q, d1q, d2q, d3q, d4q, R9, K8.out.box (IsBox.book HRp8.out) oo9⟩, hide (apply_may HA.out), hide ((HO.out.later L8.out).box HRp8.out (by decide) (by decide) oo9), hide ((HBb.out.later L8.out).other (IsBox.book HRp8.out) HNB.out oo9), hide ((HL.out.trans L8.out).only oo9 HGN.out)⟩, by simp [intOf]; omega⟩
     refine AllReadyN.held rfl (by rfl) (fun K hK => ?_) AllReadyN.nil
     go_simp
     obtain ⟨g8, hg8⟩ : ∃ g, g = wr.heap.size := ⟨_, rfl⟩
     rw [<- hg8]
     have hgl : wr.heap.size <= g8 := by rw [hg8]; exact Nat.le_refl _
     have HZ8 : Hid (Row (wr.drew.alloc (Obj.cells #[Value.slice none 0 0, Value.int .i64 0, Value.int .i64 0, Value.slice none 0 0, Value.slice none 0 0, Value.slice none 0 0] 27)) g8 27 [.slice none 0 0, .int .i64 0, .int .i64 0, .slice none 0 0, .slice none 0 0, .slice none 0 0]) := hide (by rw [hg8]; exact Row.new wr.drew _ _)
     clear hg8
     refine hK.out _ _ ?_ (fun hHeld => ?_)
     ·exact HT1.out _ lt_
     clear hK K
     try simp only [Act.put, s1_, s2_, s3_]
     refine wpAnyN_ready (rs := [5]) (by kernel_rfl) (by simp) ?_
     refine AllReadyN.held rfl (by rfl) (fun K hK => ?_) AllReadyN.nil
     go_simp
     refine (HCA.out _ lt_).mono ?_
     rintro e a5 h1
     unfold CauP at h1
     dsimp only at h1
     obtain ⟨b5, hm5, B1q, B2q, B3q, B4q, m1q, m2q, m3q, m4q, d1q, d2q, d3q, d4q, rfl, hk5⟩ := h1
     have HK5 := hide hk5; have HM5 := hide hm5
     clear hk5 hm5
     have hz8 := HZ8.out.later b5
     have q0 := hz8.cell (i := 0) rfl; have qz0 := hz8.frozen 0; have q1 := hz8.cell (i := 1) rfl; have qz1 := hz8.frozen 1; have q2 := hz8.cell (i := 2) rfl; have qz2 := hz8.frozen 2; have q3 := hz8.cell (i := 3) rfl; have qz3 := hz8.frozen 3; have q4 := hz8.cell (i := 4) rfl; have qz4 := hz8.frozen 4; have q5 := hz8.cell (i := 5) rfl; have qz5 := hz8.frozen 5
     have HZ9 := hide hz8
     clear hz8
     have l5 : Later wr a5 := Later.trans lt_ b5
     refine hK.out _ _ ?_ (fun hHeld => ?_)
     ·exact HT1.out _ lt_
     clear hK K
     try simp only [Act.put, s1_, s2_, s3_]
     refine tkB 79 6 ?_
     refine tkB 86 7 ?_
     refine tkB 87 8 ?_
     refine wpAnyN_ready (rs := [10]) (by kernel_rfl) (by simp) ?_
     refine AllReadyN.held rfl (by rfl) (fun K hK => ?_) AllReadyN.nil
     go_simp
     refine hK.out _ _ ?_ (fun hHeld => ?_)
     ·exact HT1.out _ (Later.setCell (Later.setCell (Later.setCell (Later.setCell (Later.setCell (Later.setCell l5 hgl _) hgl _) hgl _) hgl _) hgl _) hgl _)
     clear hK K
     try simp only [Act.put, s1_, s2_, s3_]
     refine tkB 16 11 ?_
     refine wpAnyN_done (by kernel_rfl) ?_ _
     clear hHeld
     obtain ⟨W8, hW8⟩ : ∃ W, W = ((((((a5.setCell ⟨g8, 0, none⟩ (.slice B1q m1q d1q)).setCell ⟨g8, 1, none⟩ (.int .i64 D'.hor)).setCell ⟨g8, 2, none⟩ (.int .i64 D'.now)).setCell ⟨g8, 3, none⟩ (.slice B2q m2q d2q)).setCell ⟨g8, 4, none⟩ (.slice B3q m3q d3q)).setCell ⟨g8, 5, none⟩ (.slice B4q m4q d4q)) := ⟨_, rfl⟩
     have oo8 : Only g8 a5 W8 := by rw [hW8]; exact only6 g8 (.slice B1q m1q d1q) (.int .i64 D'.hor) (.int .i64 D'.now) (.slice B2q m2q d2q) (.slice B3q m3q d3q) (.slice B4q m4q d4q)
     have R8 : Hid (Row W8 g8 27 [.slice B1q m1q d1q, .int .i64 D'.hor, .int .i64 D'.now, .slice B2q m2q d2q, .slice B3q m3q d3q, .slice B4q m4q d4q]) := hide (by rw [hW8]; exact HZ9.out.put6 _ _ _ _ _ _)
     have L8 : Hid (Later wr W8) := hide (Later.only l5 oo8 hgl)
     have HG8 := hide hgl
     have K8 : Hid (BkN w.heap.size W8 (.slice B1q m1q d1q) (.slice B2q m2q d2q) (.slice B3q m3q d3q) (.slice B4q m4q d4q) D') := hide (((HK5.out.weaken (HL.out.drew.alloc _).size)).box (IsBox.book HZ9.out) oo8)
     rw [<- hW8]
     clear hW8 oo8 q0 q1 q2 q3 q4 q5 qz0 qz1 qz2 qz3 qz4 qz5 l5 b5 HZ9 hgl
     have rp8 := HRp.out.later L8.out
     have x0 := (R8.out.later (Later.refl _)).cell (i := 0) rfl; have x1 := (R8.out.later (Later.refl _)).cell (i := 1) rfl; have x2 := (R8.out.later (Later.refl _)).cell (i := 2) rfl; have x3 := (R8.out.later (Later.refl _)).cell (i := 3) rfl; have x4 := (R8.out.later (Later.refl _)).cell (i := 4) rfl; have x5 := (R8.out.later (Later.refl _)).cell (i := 5) rfl
     have k0 := rp8.cell (i := 0) rfl; have kz0 := rp8.frozen 0; have k1 := rp8.cell (i := 1) rfl; have kz1 := rp8.frozen 1; have k2 := rp8.cell (i := 2) rfl; have kz2 := rp8.frozen 2; have k3 := rp8.cell (i := 3) rfl; have kz3 := rp8.frozen 3; have k4 := rp8.cell (i := 4) rfl; have kz4 := rp8.frozen 4; have k5 := rp8.cell (i := 5) rfl; have kz5 := rp8.frozen 5
     have HRp8 := hide rp8
     clear rp8
     go_wp2_with fail
     obtain ⟨W9, hW9⟩ : ∃ W, W = ((((((W8.setCell ⟨gN, 0, none⟩ (.slice B1q m1q d1q)).setCell ⟨gN, 1, none⟩ (.int .i64 D'.hor)).setCell ⟨gN, 2, none⟩ (.int .i64 D'.now)).setCell ⟨gN, 3, none⟩ (.slice B2q m2q d2q)).setCell ⟨gN, 4, none⟩ (.slice B3q m3q d3q)).setCell ⟨gN, 5, none⟩ (.slice B4q m4q d4q)) := ⟨_, rfl⟩
     have oo9 : Only gN W8 W9 := by rw [hW9]; exact only6 gN (.slice B1q m1q d1q) (.int .i64 D'.hor) (.int .i64 D'.now) (.slice B2q m2q d2q) (.slice B3q m3q d3q) (.slice B4q m4q d4q)
     have R9 : Row W9 gN 27 [.slice B1q m1q d1q, .int .i64 D'.hor, .int .i64 D'.now, .slice B2q m2q d2q, .slice B3q m3q d3q, .slice B4q m4q d4q] := by rw [hW9]; exact HRp8.out.put6 _ _ _ _ _ _
     rw [<- hW9]
     clear hW9
     exact ⟨⟨j+1, D', by go_num, by omega, HE', hide ⟨B1q, B2q, B3q, B4q, m1q, m2q, m3q, m4q, d1q, d2q, d3q, d4q, R9, K8.out.box (IsBox.book HRp8.out) oo9⟩, hide (apply_may HA.out), hide ((HO.out.later L8.out).box HRp8.out (by decide) (by decide) oo9), hide ((HBb.out.later L8.out).other (IsBox.book HRp8.out) HNB.out oo9), hide ((HL.out.trans L8.out).only oo9 HGN.out)⟩, by simp [intOf]; omega⟩
    ·obtain rfl : j = n6 := by omega
     have hED : E = D := by
      have h1 := HRE.out
      rw [List.take_of_length_le (by have := HN6.out; omega), HRUN.out] at h1
      injection h1 with h1; exact h1.symm
     subst hED
     obtain ⟨B1r, B2r, B3r, B4r, m1r, m2r, m3r, m4r, d1r, d2r, d3r, d4r, hRr, hKr⟩ := HBb.out
     have x := hRp; have y := hRr
     have x0 := x.cell (i := 0) rfl; have x1 := x.cell (i := 1) rfl; have x2 := x.cell (i := 2) rfl; have x3 := x.cell (i := 3) rfl; have x4 := x.cell (i := 4) rfl; have x5 := x.cell (i := 5) rfl; have y0 := y.cell (i := 0) rfl; have y1 := y.cell (i := 1) rfl; have y2 := y.cell (i := 2) rfl; have y3 := y.cell (i := 3) rfl; have y4 := y.cell (i := 4) rfl; have y5 := y.cell (i := 5) rfl
     have HF1 := hide (hKp.book (fit_of_may HME.out)); have HF2 := hide (hKr.book (fit_of_may HME.out))
     clear x y hRp hRr hKp hKr
     go_wp2_with (go_at_call 15; (with_reducible refine (refsame_calls _ B1p B2p B3p B4p B1r B2r B3r B4r m1p m2p m3p m4p d1p d2p d3p d4p m1r m2r m3r m4r d1r d2r d3r d4r E HF1.out HF2.out).mono ?_); rintro e a29 ⟨rfl, b29⟩)
     go_ret
     exact ⟨rfl, HL.out.trans b29⟩
  have t1 : decide (j < n) = true := by simpa using hjn
  by_cases hj6 : j < 60
  rotate_left
  ·have t2 : decide ((j : Int) < 60) = false := by simp; omega
   obtain ⟨B1p, B2p, B3p, B4p, m1p, m2p, m3p, m4p, d1p, d2p, d3p, d4p, hRp, hKp⟩ := HB.out
   have HRp := hide hRp; have HKp := hide hKp
   clear hRp hKp
   have x0 := (HRp.out.later (Later.refl _)).cell (i := 0) rfl; have x1 := (HRp.out.later (Later.refl _)).cell (i := 1) rfl; have x2 := (HRp.out.later (Later.refl _)).cell (i := 2) rfl; have x3 := (HRp.out.later (Later.refl _)).cell (i := 3) rfl; have x4 := (HRp.out.later (Later.refl _)).cell (i := 4) rfl; have x5 := (HRp.out.later (Later.refl _)).cell (i := 5) rfl
   go_upto_region 15 with (go_at_call 25; (refine (story_calls _ B1p B2p B3p B4p m1p m2p m3p m4p d1p d2p d3p d4p D HS.out (HKp.out.book (fit_of_may HS.out.may))).mono ?_); rintro e a6 h6; unfold StoryP at h6; obtain ⟨A6, n6, c6, rfl, ho6, b6⟩ := h6; have hn6 : n6 = (tellV D).length := (by obtain ⟨_, _, _, ee, e2, -⟩ := ho6.ops.form; injection ee with _ e3 _; omega); have HN6 := hide hn6; have HO6 := hide ho6; clear hn6 ho6)
   have h150 : n6 <= 150 := by have h1 := HN6.out; have h2 := tell_len HS.out.may; omega
   have HLa := hide (HL.out.trans b6); have b6' := hide b6
   have HOa : Hid (OutOps w.heap.size a6 (.slice A6 n6 c6) (tellV D)) := hide (HO6.out.weaken HL.out.size)
   have HBa := hide (HB.out.later b6)
   clear b6 x0 x1 x2 x3 x4 x5 HO6 HRp HKp
   go_upto_region 16 with (first | (go_at_call 24; (with_reducible refine (items20_calls _ z HZ.out).mono ?_); rintro e ai ⟨Ai, ni, ci, rfl, hi, bi⟩) | (go_at_call 14; (refine (HN1.out _ _ _ _ hi).mono ?_); rintro e a15 h1; unfold CauP at h1; dsimp only at h1; obtain ⟨b15, hm15, B1n, B2n, B3n, B4n, m1n, m2n, m3n, m4n, d1n, d2n, d3n, d4n, rfl, hk15⟩ := h1))
   obtain ⟨W2, hW2⟩ : ∃ W2, W2 = a15.alloc (Obj.cells #[Value.slice B1n m1n d1n, Value.int .i64 D1.hor, Value.int .i64 D1.now, Value.slice B2n m2n d2n, Value.slice B3n m3n d3n, Value.slice B4n m4n d4n] 27) := ⟨_, rfl⟩
   obtain ⟨gN, hgN⟩ : ∃ gN, gN = a15.heap.size := ⟨_, rfl⟩
   have bW2 : Later a15 W2 := by rw [hW2]; exact (Later.refl _).alloc _
   have rgN : Row W2 gN 27 [.slice B1n m1n d1n, .int .i64 D1.hor, .int .i64 D1.now, .slice B2n m2n d2n, .slice B3n m3n d3n, .slice B4n m4n d4n] := by rw [hW2, hgN]; exact Row.new _ _ _
   rw [<- hW2, <- hgN]
   have HGN : Hid (w.heap.size <= gN) := hide (by rw [hgN]; exact (HLa.out.trans (bi.trans b15)).size)
   have HNB : Hid (gB ≠ gN) := hide (by
    have h1 := HB.out.isBox.ex
    obtain ⟨T, cs, hrow, -⟩ := h1
    have h2 := hrow.lt
    have h3 := ((HLa.out.trans (bi.trans b15)).size)
    have h4 := (b6'.out.trans (bi.trans b15)).size
    rw [hgN]; omega)
   have HL2 := hide (HLa.out.trans (bi.trans (b15.trans bW2)))
   have HBn : Hid (BkAt w.heap.size W2 gN D1) := hide ⟨B1n, B2n, B3n, B4n, m1n, m2n, m3n, m4n, d1n, d2n, d3n, d4n, rgN, (hk15.weaken (HLa.out.trans bi).size).later bW2⟩
   have HOn := hide (HOa.out.later (bi.trans (b15.trans bW2)))
   have HBb0 := hide (HBa.out.later (bi.trans (b15.trans bW2)))
   clear hW2 hgN bi b15 bW2 rgN hk15 hi
   have HRUN := hide (tell_run HS.out)
   have HD1 : Hid (newD D.items D.hor = D1) := hide (by rw [HI.out.1, HI.out.2, HDD.out])
   rw [HD1.out] at HRUN
   have HFT2 := hide (tell_fit HS.out.may)
   obtain ⟨tl, htl⟩ : ∃ tl, tl = tellV D := ⟨_, rfl⟩
   rw [<- htl] at HRUN HFT2 HOn HN6
   have hmay1 := hide hm15
   clear htl hm15
   go_wp2_with fail
   go_loopw [14] (fun iv wr => ∃ (j : Nat) (E : PBook), iv = .int .i64 (j : Int) /\ j <= n6 /\ Hid (runV D1 (tl.take j) = .ok E) /\ Hid (BkAt w.heap.size wr gN E) /\ Hid (MayP E) /\ Hid (OutOps w.heap.size wr (.slice A6 n6 c6) tl) /\ Hid (BkAt w.heap.size wr gB D) /\ Hid (Later w wr)) (fun iv _ => (n6 - intOf iv).toNat)
   case atStart => exact ⟨0, D1, rfl, Nat.zero_le _, hide rfl, HBn, hmay1, HOn, HBb0, HL2⟩
   case round =>
    obtain ⟨j, E, rfl, hj, HRE, HEB, HME, HO, HBb, HL⟩ := hrel
    obtain ⟨B1p, B2p, B3p, B4p, m1p, m2p, m3p, m4p, d1p, d2p, d3p, d4p, hRp, hKp⟩ := HEB.out
    have HRp := hide hRp; have HKp := hide hKp
    by_cases hjn : j < n6
    ·obtain ⟨o, ho⟩ : ∃ o, tl[j]? = some o := ⟨tl[j]'(by have := HN6.out; omega), List.getElem?_eq_getElem _⟩
     obtain ⟨b1, off1, rfl, Aq, nq, cq, hqq, y0, y1, y2, y3, y4, y5, y6, y7, y8⟩ := HO.out.ops.at9 ho
     obtain ⟨D', ha, hE'⟩ := runV_step HRUN.out ho HRE.out
     have HA := hide ha; have HE' := hide hE'
     have hj0 : (0 : Int) <= (j : Int) := by omega
     have hj1 : (j : Int) < n6 := by omega
     have hfo := HFT2.out o (List.mem_of_getElem? ho)
     have HCA : Hid (∀ W, Later wr W -> Calls Tryz.prog 12 #[.agg #[.slice B1p m1p d1p, .int .i64 E.hor, .int .i64 E.now, .slice B2p m2p d2p, .slice B3p m3p d3p, .slice B4p m4p d4p], .agg #[.int .i64 o.kind, .int .i64 o.ord.id, .int .i64 o.ord.item, .int .i64 o.ord.due, .int .i64 o.ord.qty, .int .i64 o.id, .int .i64 o.period, .int .i64 o.qty, .slice Aq nq cq]] W (CauP W (.ok D'))) := hide (fun W hW => by
      have h2 := apply_calls W B1p B2p B3p B4p Aq m1p m2p m3p m4p nq d1p d2p d3p d4p cq E o ((hKp.later hW).book (fit_of_may HME.out)) hfo.1 (hqq.later hW) hfo.2
      rw [ha] at h2; exact h2)
     have HT1 : Hid (∀ w', Later wr w' -> w'.cell? ⟨gN, 0, none⟩ = some (.slice B1p m1p d1p) /\ w'.cell? ⟨gN, 1, none⟩ = some (.int .i64 E.hor) /\ w'.cell? ⟨gN, 2, none⟩ = some (.int .i64 E.now) /\ w'.cell? ⟨gN, 3, none⟩ = some (.slice B2p m2p d2p) /\ w'.cell? ⟨gN, 4, none⟩ = some (.slice B3p m3p d3p) /\ w'.cell? ⟨gN, 5, none⟩ = some (.slice B4p m4p d4p) /\ w'.cell? ⟨b1, off1 + j * 9, none⟩ = some (.int .i64 o.kind) /\ w'.cell? ⟨b1, off1 + j * 9 + 1, none⟩ = some (.int .i64 o.ord.id) /\ w'.cell? ⟨b1, off1 + j * 9 + 2, none⟩ = some (.int .i64 o.ord.item) /\ w'.cell? ⟨b1, off1 + j * 9 + 3, none⟩ = some (.int .i64 o.ord.due) /\ w'.cell? ⟨b1, off1 + j * 9 + 4, none⟩ = some (.int .i64 o.ord.qty) /\ w'.cell? ⟨b1, off1 + j * 9 + 5, none⟩ = some (.int .i64 o.id) /\ w'.cell? ⟨b1, off1 + j * 9 + 6, none⟩ = some (.int .i64 o.period) /\ w'.cell? ⟨b1, off1 + j * 9 + 7, none⟩ = some (.int .i64 o.qty) /\ w'.cell? ⟨b1, off1 + j * 9 + 8, none⟩ = some (.slice Aq nq cq)) := hide (fun w' hb => ⟨(hRp.later hb).cell rfl, (hRp.later hb).cell rfl, (hRp.later hb).cell rfl, (hRp.later hb).cell rfl, (hRp.later hb).cell rfl, (hRp.later hb).cell rfl, Later.cell hb y0, Later.cell hb y1, Later.cell hb y2, Later.cell hb y3, Later.cell hb y4, Later.cell hb y5, Later.cell hb y6, Later.cell hb y7, Later.cell hb y8⟩)
     have hmx : Tryz.prog.follows .mixedOrders = true := by kernel_rfl
     clear ho hqq ha hE' hRp hKp hfo y0 y1 y2 y3 y4 y5 y6 y7 y8
     go_upto_region 21 with fail
     refine wp_region_N (fun w' => w'.cell? ⟨gN, 0, none⟩ = some (.slice B1p m1p d1p) /\ w'.cell? ⟨gN, 1, none⟩ = some (.int .i64 E.hor) /\ w'.cell? ⟨gN, 2, none⟩ = some (.int .i64 E.now) /\ w'.cell? ⟨gN, 3, none⟩ = some (.slice B2p m2p d2p) /\ w'.cell? ⟨gN, 4, none⟩ = some (.slice B3p m3p d3p) /\ w'.cell? ⟨gN, 5, none⟩ = some (.slice B4p m4p d4p) /\ w'.cell? ⟨b1, off1 + j * 9, none⟩ = some (.int .i64 o.kind) /\ w'.cell? ⟨b1, off1 + j * 9 + 1, none⟩ = some (.int .i64 o.ord.id) /\ w'.cell? ⟨b1, off1 + j * 9 + 2, none⟩ = some (.int .i64 o.ord.item) /\ w'.cell? ⟨b1, off1 + j * 9 + 3, none⟩ = some (.int .i64 o.ord.due) /\ w'.cell? ⟨b1, off1 + j * 9 + 4, none⟩ = some (.int .i64 o.ord.qty) /\ w'.cell? ⟨b1, off1 + j * 9 + 5, none⟩ = some (.int .i64 o.id) /\ w'.cell? ⟨b1, off1 + j * 9 + 6, none⟩ = some (.int .i64 o.period) /\ w'.cell? ⟨b1, off1 + j * 9 + 7, none⟩ = some (.int .i64 o.qty) /\ w'.cell? ⟨b1, off1 + j * 9 + 8, none⟩ = some (.slice Aq nq cq)) [] hmx (HT1.out _ lt_) (fun hHeld => ?_)
     refine tkB 80 0 ?_
     refine tkB 81 1 ?_
     refine tkB 82 2 ?_
     refine tkB 83 3 ?_
     refine tkB 84 4 ?_
     refine wpAnyN_ready (rs := [5, 9]) (by kernel_rfl) (by simp) ?_
     refine AllReadyN.held rfl (by rfl) (fun K hK => ?_) ?_
     ·go_simp
      refine (HCA.out _ lt_).mono ?_
      rintro e a5 h1
      unfold CauP at h1
      dsimp only at h1
      obtain ⟨b5, hm5, B1q, B2q, B3q, B4q, m1q, m2q, m3q, m4q, d1q, d2q, d3q, d4q, rfl, hk5⟩ := h1
      have HK5 := hide hk5; have HM5 := hide hm5
      clear hk5 hm5
      have l5 : Later wr a5 := Later.trans lt_ b5
      refine hK.out _ _ ?_ (fun hHeld => ?_)
      ·exact HT1.out _ lt_
      clear hK K
      try simp only [Act.put, s1_, s2_, s3_]
      refine tkB 79 6 ?_
      refine tkB 86 7 ?_
      refine tkB 87 8 ?_
      refine wpAnyN_ready (rs := [9]) (by kernel_rfl) (by simp) ?_
      refine AllReadyN.held rfl (by rfl) (fun K hK => ?_) AllReadyN.nil
      go_simp
      obtain ⟨g8, hg8⟩ : ∃ g, g = a5.heap.size := ⟨_, rfl⟩
      rw [<- hg8]
      have hgl : wr.heap.size <= g8 := by rw [hg8]; exact l5.size
      have hz8 : Row (a5.alloc (Obj.cells #[Value.slice none 0 0, Value.int .i64 0, Value.int .i64 0, Value.slice none 0 0, Value.slice none 0 0, Value.slice none 0 0] 27)) g8 27 [.slice none 0 0, .int .i64 0, .int .i64 0, .slice none 0 0, .slice none 0 0, .slice none 0 0] := by rw [hg8]; exact Row.new _ _ _
      have q0 := hz8.cell (i := 0) rfl; have qz0 := hz8.frozen 0; have q1 := hz8.cell (i := 1) rfl; have qz1 := hz8.frozen 1; have q2 := hz8.cell (i := 2) rfl; have qz2 := hz8.frozen 2; have q3 := hz8.cell (i := 3) rfl; have qz3 := hz8.frozen 3; have q4 := hz8.cell (i := 4) rfl; have qz4 := hz8.frozen 4; have q5 := hz8.cell (i := 5) rfl; have qz5 := hz8.frozen 5
      have HZ9 := hide hz8
      clear hz8 hg8
      refine hK.out _ _ ?_ (fun hHeld => ?_)
      ·exact HT1.out _ lt_
      clear hK K
      try simp only [Act.put, s1_, s2_, s3_]
      refine wpAnyN_ready (rs := [10]) (by kernel_rfl) (by simp) ?_
      refine AllReadyN.held rfl (by rfl) (fun K hK => ?_) AllReadyN.nil
      go_simp
      refine hK.out _ _ ?_ (fun hHeld => ?_)
      ·exact HT1.out _ (Later.setCell (Later.setCell (Later.setCell (Later.setCell (Later.setCell (Later.setCell (l5.alloc _) hgl _) hgl _) hgl _) hgl _) hgl _) hgl _)
      clear hK K
      try simp only [Act.put, s1_, s2_, s3_]
      refine tkB 16 11 ?_
      refine wpAnyN_done (by kernel_rfl) ?_ _
      clear hHeld
      obtain ⟨W8, hW8⟩ : ∃ W, W = (((((((a5.alloc (Obj.cells #[Value.slice none 0 0, Value.int .i64 0, Value.int .i64 0, Value.slice none 0 0, Value.slice none 0 0, Value.slice none 0 0] 27)).setCell ⟨g8, 0, none⟩ (.slice B1q m1q d1q)).setCell ⟨g8, 1, none⟩ (.int .i64 D'.hor)).setCell ⟨g8, 2, none⟩ (.int .i64 D'.now)).setCell ⟨g8, 3, none⟩ (.slice B2q m2q d2q)).setCell ⟨g8, 4, none⟩ (.slice B3q m3q d3q)).setCell ⟨g8, 5, none⟩ (.slice B4q m4q d4q)) := ⟨_, rfl⟩
      have oo8 : Only g8 (a5.alloc (Obj.cells #[Value.slice none 0 0, Value.int .i64 0, Value.int .i64 0, Value.slice none 0 0, Value.slice none 0 0, Value.slice none 0 0] 27)) W8 := by rw [hW8]; exact only6 g8 (.slice B1q m1q d1q) (.int .i64 D'.hor) (.int .i64 D'.now) (.slice B2q m2q d2q) (.slice B3q m3q d3q) (.slice B4q m4q d4q)
      have R8 : Hid (Row W8 g8 27 [.slice B1q m1q d1q, .int .i64 D'.hor, .int .i64 D'.now, .slice B2q m2q d2q, .slice B3q m3q d3q, .slice B4q m4q d4q]) := hide (by rw [hW8]; exact HZ9.out.put6 _ _ _ _ _ _)
      have L8 : Hid (Later wr W8) := hide (Later.only (l5.alloc _) oo8 hgl)
      have HG8 := hide hgl
      have K8 : Hid (BkN w.heap.size W8 (.slice B1q m1q d1q) (.slice B2q m2q d2q) (.slice B3q m3q d3q) (.slice B4q m4q d4q) D') := hide (((HK5.out.weaken HL.out.drew.size).later ((Later.refl _).alloc _)).box (IsBox.book HZ9.out) oo8)
      rw [<- hW8]
      clear hW8 oo8 q0 q1 q2 q3 q4 q5 qz0 qz1 qz2 qz3 qz4 qz5 l5 b5 HZ9 hgl
      have rp8 := HRp.out.later L8.out
      have x0 := (R8.out.later (Later.refl _)).cell (i := 0) rfl; have x1 := (R8.out.later (Later.refl _)).cell (i := 1) rfl; have x2 := (R8.out.later (Later.refl _)).cell (i := 2) rfl; have x3 := (R8.out.later (Later.refl _)).cell (i := 3) rfl; have x4 := (R8.out.later (Later.refl _)).cell (i := 4) rfl; have x5 := (R8.out.later (Later.refl _)).cell (i := 5) rfl
      have k0 := rp8.cell (i := 0) rfl; have kz0 := rp8.frozen 0; have k1 := rp8.cell (i := 1) rfl; have kz1 := rp8.frozen 1; have k2 := rp8.cell (i := 2) rfl; have kz2 := rp8.frozen 2; have k3 := rp8.cell (i := 3) rfl; have kz3 := rp8.frozen 3; have k4 := rp8.cell (i := 4) rfl; have kz4 := rp8.frozen 4; have k5 := rp8.cell (i := 5) rfl; have kz5 := rp8.frozen 5
      have HRp8 := hide rp8
      clear rp8
      go_wp2_with fail
      obtain ⟨W9, hW9⟩ : ∃ W, W = ((((((W8.setCell ⟨gN, 0, none⟩ (.slice B1q m1q d1q)).setCell ⟨gN, 1, none⟩ (.int .i64 D'.hor)).setCell ⟨gN, 2, none⟩ (.int .i64 D'.now)).setCell ⟨gN, 3, none⟩ (.slice B2q m2q d2q)).setCell ⟨gN, 4, none⟩ (.slice B3q m3q d3q)).setCell ⟨gN, 5, none⟩ (.slice B4q m4q d4q)) := ⟨_, rfl⟩
      have oo9 : Only gN W8 W9 := by rw [hW9]; exact only6 gN (.slice B1q m1q d1q) (.int .i64 D'.hor) (.int .i64 D'.now) (.slice B2q m2q d2q) (.slice B3q m3q d3q) (.slice B4q m4q d4q)
      have R9 : Row W9 gN 27 [.slice B1q m1q d1q, .int .i64 D'.hor, .int .i64 D'.now, .slice B2q m2q d2q, .slice B3q m3q d3q, .slice B4q m4q d4q] := by rw [hW9]; exact HRp8.out.put6 _ _ _ _ _ _
      rw [<- hW9]
      clear hW9
      exact ⟨⟨j+1, D', by go_num, by omega, HE', hide ⟨B1q, B2q, B3q, B4q, m1q, m2q, m3q, m4q, d1q, d2q, d3q, d4q, R9, K8.out.box (IsBox.book HRp8.out) oo9⟩, hide (apply_may HA.out), hide ((HO.out.later L8.out).box HRp8.out (by decide) (by decide) oo9), hide ((HBb.out.later L8.out).other (IsBox.book HRp8.out) HNB.out oo9), hide ((HL.out.trans L8.out).only oo9 HGN.out)⟩, by simp [intOf]; omega⟩
     refine AllReadyN.held rfl (by rfl) (fun K hK => ?_) AllReadyN.nil
     go_simp
     obtain ⟨g8, hg8⟩ : ∃ g, g = wr.heap.size := ⟨_, rfl⟩
     rw [<- hg8]
     have hgl : wr.heap.size <= g8 := by rw [hg8]; exact Nat.le_refl _
     have HZ8 : Hid (Row (wr.drew.alloc (Obj.cells #[Value.slice none 0 0, Value.int .i64 0, Value.int .i64 0, Value.slice none 0 0, Value.slice none 0 0, Value.slice none 0 0] 27)) g8 27 [.slice none 0 0, .int .i64 0, .int .i64 0, .slice none 0 0, .slice none 0 0, .slice none 0 0]) := hide (by rw [hg8]; exact Row.new wr.drew _ _)
     clear hg8
     refine hK.out _ _ ?_ (fun hHeld => ?_)
     ·exact HT1.out _ lt_
     clear hK K
     try simp only [Act.put, s1_, s2_, s3_]
     refine wpAnyN_ready (rs := [5]) (by kernel_rfl) (by simp) ?_
     refine AllReadyN.held rfl (by rfl) (fun K hK => ?_) AllReadyN.nil
     go_simp
     refine (HCA.out _ lt_).mono ?_
     rintro e a5 h1
     unfold CauP at h1
     dsimp only at h1
     obtain ⟨b5, hm5, B1q, B2q, B3q, B4q, m1q, m2q, m3q, m4q, d1q, d2q, d3q, d4q, rfl, hk5⟩ := h1
     have HK5 := hide hk5; have HM5 := hide hm5
     clear hk5 hm5
     have hz8 := HZ8.out.later b5
     have q0 := hz8.cell (i := 0) rfl; have qz0 := hz8.frozen 0; have q1 := hz8.cell (i := 1) rfl; have qz1 := hz8.frozen 1; have q2 := hz8.cell (i := 2) rfl; have qz2 := hz8.frozen 2; have q3 := hz8.cell (i := 3) rfl; have qz3 := hz8.frozen 3; have q4 := hz8.cell (i := 4) rfl; have qz4 := hz8.frozen 4; have q5 := hz8.cell (i := 5) rfl; have qz5 := hz8.frozen 5
     have HZ9 := hide hz8
     clear hz8
     have l5 : Later wr a5 := Later.trans lt_ b5
     refine hK.out _ _ ?_ (fun hHeld => ?_)
     ·exact HT1.out _ lt_
     clear hK K
     try simp only [Act.put, s1_, s2_, s3_]
     refine tkB 79 6 ?_
     refine tkB 86 7 ?_
     refine tkB 87 8 ?_
     refine wpAnyN_ready (rs := [10]) (by kernel_rfl) (by simp) ?_
     refine AllReadyN.held rfl (by rfl) (fun K hK => ?_) AllReadyN.nil
     go_simp
     refine hK.out _ _ ?_ (fun hHeld => ?_)
     ·exact HT1.out _ (Later.setCell (Later.setCell (Later.setCell (Later.setCell (Later.setCell (Later.setCell l5 hgl _) hgl _) hgl _) hgl _) hgl _) hgl _)
     clear hK K
     try simp only [Act.put, s1_, s2_, s3_]
     refine tkB 16 11 ?_
     refine wpAnyN_done (by kernel_rfl) ?_ _
     clear hHeld
     obtain ⟨W8, hW8⟩ : ∃ W, W = ((((((a5.setCell ⟨g8, 0, none⟩ (.slice B1q m1q d1q)).setCell ⟨g8, 1, none⟩ (.int .i64 D'.hor)).setCell ⟨g8, 2, none⟩ (.int .i64 D'.now)).setCell ⟨g8, 3, none⟩ (.slice B2q m2q d2q)).setCell ⟨g8, 4, none⟩ (.slice B3q m3q d3q)).setCell ⟨g8, 5, none⟩ (.slice B4q m4q d4q)) := ⟨_, rfl⟩
     have oo8 : Only g8 a5 W8 := by rw [hW8]; exact only6 g8 (.slice B1q m1q d1q) (.int .i64 D'.hor) (.int .i64 D'.now) (.slice B2q m2q d2q) (.slice B3q m3q d3q) (.slice B4q m4q d4q)
     have R8 : Hid (Row W8 g8 27 [.slice B1q m1q d1q, .int .i64 D'.hor, .int .i64 D'.now, .slice B2q m2q d2q, .slice B3q m3q d3q, .slice B4q m4q d4q]) := hide (by rw [hW8]; exact HZ9.out.put6 _ _ _ _ _ _)
     have L8 : Hid (Later wr W8) := hide (Later.only l5 oo8 hgl)
     have HG8 := hide hgl
     have K8 : Hid (BkN w.heap.size W8 (.slice B1q m1q d1q) (.slice B2q m2q d2q) (.slice B3q m3q d3q) (.slice B4q m4q d4q) D') := hide (((HK5.out.weaken (HL.out.drew.alloc _).size)).box (IsBox.book HZ9.out) oo8)
     rw [<- hW8]
     clear hW8 oo8 q0 q1 q2 q3 q4 q5 qz0 qz1 qz2 qz3 qz4 qz5 l5 b5 HZ9 hgl
     have rp8 := HRp.out.later L8.out
     have x0 := (R8.out.later (Later.refl _)).cell (i := 0) rfl; have x1 := (R8.out.later (Later.refl _)).cell (i := 1) rfl; have x2 := (R8.out.later (Later.refl _)).cell (i := 2) rfl; have x3 := (R8.out.later (Later.refl _)).cell (i := 3) rfl; have x4 := (R8.out.later (Later.refl _)).cell (i := 4) rfl; have x5 := (R8.out.later (Later.refl _)).cell (i := 5) rfl
     have k0 := rp8.cell (i := 0) rfl; have kz0 := rp8.frozen 0; have k1 := rp8.cell (i := 1) rfl; have kz1 := rp8.frozen 1; have k2 := rp8.cell (i := 2) rfl; have kz2 := rp8.frozen 2; have k3 := rp8.cell (i := 3) rfl; have kz3 := rp8.frozen 3; have k4 := rp8.cell (i := 4) rfl; have kz4 := rp8.frozen 4; have k5 := rp8.cell (i := 5) rfl; have kz5 := rp8.frozen 5
     have HRp8 := hide rp8
     clear rp8
     go_wp2_with fail
     obtain ⟨W9, hW9⟩ : ∃ W, W = ((((((W8.setCell ⟨gN, 0, none⟩ (.slice B1q m1q d1q)).setCell ⟨gN, 1, none⟩ (.int .i64 D'.hor)).setCell ⟨gN, 2, none⟩ (.int .i64 D'.now)).setCell ⟨gN, 3, none⟩ (.slice B2q m2q d2q)).setCell ⟨gN, 4, none⟩ (.slice B3q m3q d3q)).setCell ⟨gN, 5, none⟩ (.slice B4q m4q d4q)) := ⟨_, rfl⟩
     have oo9 : Only gN W8 W9 := by rw [hW9]; exact only6 gN (.slice B1q m1q d1q) (.int .i64 D'.hor) (.int .i64 D'.now) (.slice B2q m2q d2q) (.slice B3q m3q d3q) (.slice B4q m4q d4q)
     have R9 : Row W9 gN 27 [.slice B1q m1q d1q, .int .i64 D'.hor, .int .i64 D'.now, .slice B2q m2q d2q, .slice B3q m3q d3q, .slice B4q m4q d4q] := by rw [hW9]; exact HRp8.out.put6 _ _ _ _ _ _
     rw [<- hW9]
     clear hW9
     exact ⟨⟨j+1, D', by go_num, by omega, HE', hide ⟨B1q, B2q, B3q, B4q, m1q, m2q, m3q, m4q, d1q, d2q, d3q, d4q, R9, K8.out.box (IsBox.book HRp8.out) oo9⟩, hide (apply_may HA.out), hide ((HO.out.later L8.out).box HRp8.out (by decide) (by decide) oo9), hide ((HBb.out.later L8.out).other (IsBox.book HRp8.out) HNB.out oo9), hide ((HL.out.trans L8.out).only oo9 HGN.out)⟩, by simp [intOf]; omega⟩
    ·obtain rfl : j = n6 := by omega
     have hED : E = D := by
      have h1 := HRE.out
      rw [List.take_of_length_le (by have := HN6.out; omega), HRUN.out] at h1
      injection h1 with h1; exact h1.symm
     subst hED
     obtain ⟨B1r, B2r, B3r, B4r, m1r, m2r, m3r, m4r, d1r, d2r, d3r, d4r, hRr, hKr⟩ := HBb.out
     have x := hRp; have y := hRr
     have x0 := x.cell (i := 0) rfl; have x1 := x.cell (i := 1) rfl; have x2 := x.cell (i := 2) rfl; have x3 := x.cell (i := 3) rfl; have x4 := x.cell (i := 4) rfl; have x5 := x.cell (i := 5) rfl; have y0 := y.cell (i := 0) rfl; have y1 := y.cell (i := 1) rfl; have y2 := y.cell (i := 2) rfl; have y3 := y.cell (i := 3) rfl; have y4 := y.cell (i := 4) rfl; have y5 := y.cell (i := 5) rfl
     have HF1 := hide (hKp.book (fit_of_may HME.out)); have HF2 := hide (hKr.book (fit_of_may HME.out))
     clear x y hRp hRr hKp hKr
     go_wp2_with (go_at_call 15; (with_reducible refine (refsame_calls _ B1p B2p B3p B4p B1r B2r B3r B4r m1p m2p m3p m4p d1p d2p d3p d4p m1r m2r m3r m4r d1r d2r d3r d4r E HF1.out HF2.out).mono ?_); rintro e a29 ⟨rfl, b29⟩)
     go_ret
     exact ⟨rfl, HL.out.trans b29⟩
  have t2 : decide ((j : Int) < 60) = true := by simp; omega
  obtain ⟨o, ho⟩ : ∃ o, l[j]? = some o := ⟨l[j]'(by have := HNL.out; omega), List.getElem?_eq_getElem _⟩
  obtain ⟨b1, off1, rfl, Aq, nq, cq, hqq, y0, y1, y2, y3, y4, y5, y6, y7, y8⟩ := (HOP.out.later HL.out).at9 ho
  have hj0 : (0 : Int) <= (j : Int) := by omega
  have hj1 : (j : Int) < n := by omega
  obtain ⟨uf, huf⟩ : ∃ u, decide (nq <= 100) = u := ⟨_, rfl⟩
  have HUF := hide huf
  have hnq : nq = o.qtys.length := by
   obtain ⟨_, _, _, e, e2, -⟩ := hqq.form
   injection e with _ e3 _; omega
  have HNQ := hide hnq; have HHO := hide ho; have HQQ := hide hqq
  have HYS : Hid (∀ w', Later wr w' -> w'.cell? ⟨b1, off1 + j * 9, none⟩ = some (.int .i64 o.kind) /\ w'.cell? ⟨b1, off1 + j * 9 + 1, none⟩ = some (.int .i64 o.ord.id) /\ w'.cell? ⟨b1, off1 + j * 9 + 2, none⟩ = some (.int .i64 o.ord.item) /\ w'.cell? ⟨b1, off1 + j * 9 + 3, none⟩ = some (.int .i64 o.ord.due) /\ w'.cell? ⟨b1, off1 + j * 9 + 4, none⟩ = some (.int .i64 o.ord.qty) /\ w'.cell? ⟨b1, off1 + j * 9 + 5, none⟩ = some (.int .i64 o.id) /\ w'.cell? ⟨b1, off1 + j * 9 + 6, none⟩ = some (.int .i64 o.period) /\ w'.cell? ⟨b1, off1 + j * 9 + 7, none⟩ = some (.int .i64 o.qty) /\ w'.cell? ⟨b1, off1 + j * 9 + 8, none⟩ = some (.slice Aq nq cq)) := hide (fun w' hb => ⟨Later.cell hb y0, Later.cell hb y1, Later.cell hb y2, Later.cell hb y3, Later.cell hb y4, Later.cell hb y5, Later.cell hb y6, Later.cell hb y7, Later.cell hb y8⟩)
  clear huf hnq ho hqq
  cases uf with
  | false =>
    go_wp2_with (go_at_call 11; (with_reducible refine (fewop_calls _ Aq nq cq o _ HUF.out).mono ?_); rintro e a9 ⟨rfl, b9⟩)
    go_ret
    exact ⟨rfl, HL.out.trans b9⟩
  | true =>
  go_upto_region 11 with (go_at_call 11; (with_reducible refine (fewop_calls _ Aq nq cq o _ HUF.out).mono ?_); rintro e wz ⟨rfl, b9⟩)
  have HLz := hide (HL.out.trans b9)
  have HBz := hide (HB.out.later b9)
  have HYz : Hid (∀ w', Later wz w' -> w'.cell? ⟨b1, off1 + j * 9, none⟩ = some (.int .i64 o.kind) /\ w'.cell? ⟨b1, off1 + j * 9 + 1, none⟩ = some (.int .i64 o.ord.id) /\ w'.cell? ⟨b1, off1 + j * 9 + 2, none⟩ = some (.int .i64 o.ord.item) /\ w'.cell? ⟨b1, off1 + j * 9 + 3, none⟩ = some (.int .i64 o.ord.due) /\ w'.cell? ⟨b1, off1 + j * 9 + 4, none⟩ = some (.int .i64 o.ord.qty) /\ w'.cell? ⟨b1, off1 + j * 9 + 5, none⟩ = some (.int .i64 o.id) /\ w'.cell? ⟨b1, off1 + j * 9 + 6, none⟩ = some (.int .i64 o.period) /\ w'.cell? ⟨b1, off1 + j * 9 + 7, none⟩ = some (.int .i64 o.qty) /\ w'.cell? ⟨b1, off1 + j * 9 + 8, none⟩ = some (.slice Aq nq cq)) := hide (fun w' hb => HYS.out w' (b9.trans hb))
  have HQz := hide (HQQ.out.later b9)
  clear b9 y0 y1 y2 y3 y4 y5 y6 y7 y8 HB HYS HQQ
  have HL := HLz; have HB := HBz
  clear HLz HBz
  obtain ⟨r, hr⟩ : ∃ r, applyV D o = r := ⟨_, rfl⟩
  obtain ⟨B1p, B2p, B3p, B4p, m1p, m2p, m3p, m4p, d1p, d2p, d3p, d4p, hRp, hKp⟩ := HB.out
  have HCA : Hid (∀ W, Later wz W -> Calls Tryz.prog 12 #[.agg #[.slice B1p m1p d1p, .int .i64 D.hor, .int .i64 D.now, .slice B2p m2p d2p, .slice B3p m3p d3p, .slice B4p m4p d4p], .agg #[.int .i64 o.kind, .int .i64 o.ord.id, .int .i64 o.ord.item, .int .i64 o.ord.due, .int .i64 o.ord.qty, .int .i64 o.id, .int .i64 o.period, .int .i64 o.qty, .slice Aq nq cq]] W (CauP W r)) := hide (fun W hW => by
   have h2 := apply_calls W B1p B2p B3p B4p Aq m1p m2p m3p m4p nq d1p d2p d3p d4p cq D o ((hKp.later hW).book (fit_of_may HS.out.may)) (HFT.out o (List.mem_of_getElem? HHO.out)) (HQz.out.later hW) (by have h1 := HNQ.out; have h2 := HUF.out; simp only [decide_eq_true_iff] at h2; omega)
   rw [hr] at h2; exact h2)
  have HR := hide hr
  have HRp := hide hRp; have HKp := hide hKp
  have HT1 : Hid (∀ w', Later wz w' -> w'.cell? ⟨gB, 0, none⟩ = some (.slice B1p m1p d1p) /\ w'.cell? ⟨gB, 1, none⟩ = some (.int .i64 D.hor) /\ w'.cell? ⟨gB, 2, none⟩ = some (.int .i64 D.now) /\ w'.cell? ⟨gB, 3, none⟩ = some (.slice B2p m2p d2p) /\ w'.cell? ⟨gB, 4, none⟩ = some (.slice B3p m3p d3p) /\ w'.cell? ⟨gB, 5, none⟩ = some (.slice B4p m4p d4p) /\ w'.cell? ⟨b1, off1 + j * 9, none⟩ = some (.int .i64 o.kind) /\ w'.cell? ⟨b1, off1 + j * 9 + 1, none⟩ = some (.int .i64 o.ord.id) /\ w'.cell? ⟨b1, off1 + j * 9 + 2, none⟩ = some (.int .i64 o.ord.item) /\ w'.cell? ⟨b1, off1 + j * 9 + 3, none⟩ = some (.int .i64 o.ord.due) /\ w'.cell? ⟨b1, off1 + j * 9 + 4, none⟩ = some (.int .i64 o.ord.qty) /\ w'.cell? ⟨b1, off1 + j * 9 + 5, none⟩ = some (.int .i64 o.id) /\ w'.cell? ⟨b1, off1 + j * 9 + 6, none⟩ = some (.int .i64 o.period) /\ w'.cell? ⟨b1, off1 + j * 9 + 7, none⟩ = some (.int .i64 o.qty) /\ w'.cell? ⟨b1, off1 + j * 9 + 8, none⟩ = some (.slice Aq nq cq)) := hide (fun w' hb => by
   obtain ⟨y0, y1, y2, y3, y4, y5, y6, y7, y8⟩ := HYz.out w' hb
   exact ⟨(hRp.later hb).cell rfl, (hRp.later hb).cell rfl, (hRp.later hb).cell rfl, (hRp.later hb).cell rfl, (hRp.later hb).cell rfl, (hRp.later hb).cell rfl, y0, y1, y2, y3, y4, y5, y6, y7, y8⟩)
  clear hr hRp hKp
  have hmx : Tryz.prog.follows .mixedOrders = true := by kernel_rfl
  cases r with
  | ok D' =>
    refine wp_region_N (fun w' => w'.cell? ⟨gB, 0, none⟩ = some (.slice B1p m1p d1p) /\ w'.cell? ⟨gB, 1, none⟩ = some (.int .i64 D.hor) /\ w'.cell? ⟨gB, 2, none⟩ = some (.int .i64 D.now) /\ w'.cell? ⟨gB, 3, none⟩ = some (.slice B2p m2p d2p) /\ w'.cell? ⟨gB, 4, none⟩ = some (.slice B3p m3p d3p) /\ w'.cell? ⟨gB, 5, none⟩ = some (.slice B4p m4p d4p) /\ w'.cell? ⟨b1, off1 + j * 9, none⟩ = some (.int .i64 o.kind) /\ w'.cell? ⟨b1, off1 + j * 9 + 1, none⟩ = some (.int .i64 o.ord.id) /\ w'.cell? ⟨b1, off1 + j * 9 + 2, none⟩ = some (.int .i64 o.ord.item) /\ w'.cell? ⟨b1, off1 + j * 9 + 3, none⟩ = some (.int .i64 o.ord.due) /\ w'.cell? ⟨b1, off1 + j * 9 + 4, none⟩ = some (.int .i64 o.ord.qty) /\ w'.cell? ⟨b1, off1 + j * 9 + 5, none⟩ = some (.int .i64 o.id) /\ w'.cell? ⟨b1, off1 + j * 9 + 6, none⟩ = some (.int .i64 o.period) /\ w'.cell? ⟨b1, off1 + j * 9 + 7, none⟩ = some (.int .i64 o.qty) /\ w'.cell? ⟨b1, off1 + j * 9 + 8, none⟩ = some (.slice Aq nq cq)) [] hmx (HT1.out _ lt_) (fun hHeld => ?_)
    refine tkB 44 0 ?_
    refine tkB 45 1 ?_
    refine tkB 46 2 ?_
    refine tkB 47 3 ?_
    refine tkB 48 4 ?_
    refine wpAnyN_ready (rs := [5, 9]) (by kernel_rfl) (by simp) ?_
    refine AllReadyN.held rfl (by rfl) (fun K hK => ?_) ?_
    ·go_simp
     refine (HCA.out _ lt_).mono ?_
     rintro e a5 h1
     unfold CauP at h1
     dsimp only at h1
     obtain ⟨b5, hm5, B1q, B2q, B3q, B4q, m1q, m2q, m3q, m4q, d1q, d2q, d3q, d4q, rfl, hk5⟩ := h1
     have HK5 := hide hk5; have HM5 := hide hm5
     clear hk5 hm5
     have l5 : Later wz a5 := Later.trans lt_ b5
     refine hK.out _ _ ?_ (fun hHeld => ?_)
     ·exact HT1.out _ lt_
     clear hK K
     try simp only [Act.put, s1_, s2_, s3_]
     refine tkB 43 6 ?_
     refine tkB 50 7 ?_
     refine tkB 51 8 ?_
     refine wpAnyN_ready (rs := [9]) (by kernel_rfl) (by simp) ?_
     refine AllReadyN.held rfl (by rfl) (fun K hK => ?_) AllReadyN.nil
     go_simp
     obtain ⟨g8, hg8⟩ : ∃ g, g = a5.heap.size := ⟨_, rfl⟩
     rw [<- hg8]
     have hgl : wz.heap.size <= g8 := by rw [hg8]; exact l5.size
     have hz8 : Row (a5.alloc (Obj.cells #[Value.slice none 0 0, Value.int .i64 0, Value.int .i64 0, Value.slice none 0 0, Value.slice none 0 0, Value.slice none 0 0] 27)) g8 27 [.slice none 0 0, .int .i64 0, .int .i64 0, .slice none 0 0, .slice none 0 0, .slice none 0 0] := by rw [hg8]; exact Row.new _ _ _
     have q0 := hz8.cell (i := 0) rfl; have qz0 := hz8.frozen 0; have q1 := hz8.cell (i := 1) rfl; have qz1 := hz8.frozen 1; have q2 := hz8.cell (i := 2) rfl; have qz2 := hz8.frozen 2; have q3 := hz8.cell (i := 3) rfl; have qz3 := hz8.frozen 3; have q4 := hz8.cell (i := 4) rfl; have qz4 := hz8.frozen 4; have q5 := hz8.cell (i := 5) rfl; have qz5 := hz8.frozen 5
     have HZ9 := hide hz8
     clear hz8 hg8
     refine hK.out _ _ ?_ (fun hHeld => ?_)
     ·exact HT1.out _ lt_
     clear hK K
     try simp only [Act.put, s1_, s2_, s3_]
     refine wpAnyN_ready (rs := [10]) (by kernel_rfl) (by simp) ?_
     refine AllReadyN.held rfl (by rfl) (fun K hK => ?_) AllReadyN.nil
     go_simp
     refine hK.out _ _ ?_ (fun hHeld => ?_)
     ·exact HT1.out _ (Later.setCell (Later.setCell (Later.setCell (Later.setCell (Later.setCell (Later.setCell (l5.alloc _) hgl _) hgl _) hgl _) hgl _) hgl _) hgl _)
     clear hK K
     try simp only [Act.put, s1_, s2_, s3_]
     refine tkB 9 11 ?_
     refine wpAnyN_done (by kernel_rfl) ?_ _
     clear hHeld
     obtain ⟨W8, hW8⟩ : ∃ W, W = (((((((a5.alloc (Obj.cells #[Value.slice none 0 0, Value.int .i64 0, Value.int .i64 0, Value.slice none 0 0, Value.slice none 0 0, Value.slice none 0 0] 27)).setCell ⟨g8, 0, none⟩ (.slice B1q m1q d1q)).setCell ⟨g8, 1, none⟩ (.int .i64 D'.hor)).setCell ⟨g8, 2, none⟩ (.int .i64 D'.now)).setCell ⟨g8, 3, none⟩ (.slice B2q m2q d2q)).setCell ⟨g8, 4, none⟩ (.slice B3q m3q d3q)).setCell ⟨g8, 5, none⟩ (.slice B4q m4q d4q)) := ⟨_, rfl⟩
     have oo8 : Only g8 (a5.alloc (Obj.cells #[Value.slice none 0 0, Value.int .i64 0, Value.int .i64 0, Value.slice none 0 0, Value.slice none 0 0, Value.slice none 0 0] 27)) W8 := by rw [hW8]; exact only6 g8 (.slice B1q m1q d1q) (.int .i64 D'.hor) (.int .i64 D'.now) (.slice B2q m2q d2q) (.slice B3q m3q d3q) (.slice B4q m4q d4q)
     have R8 : Hid (Row W8 g8 27 [.slice B1q m1q d1q, .int .i64 D'.hor, .int .i64 D'.now, .slice B2q m2q d2q, .slice B3q m3q d3q, .slice B4q m4q d4q]) := hide (by rw [hW8]; exact HZ9.out.put6 _ _ _ _ _ _)
     have L8 : Hid (Later wz W8) := hide (Later.only (l5.alloc _) oo8 hgl)
     have HG8 := hide hgl
     have K8 : Hid (BkN w.heap.size W8 (.slice B1q m1q d1q) (.slice B2q m2q d2q) (.slice B3q m3q d3q) (.slice B4q m4q d4q) D') := hide (((HK5.out.weaken HL.out.drew.size).later ((Later.refl _).alloc _)).box (IsBox.book HZ9.out) oo8)
     rw [<- hW8]
     clear hW8 oo8 q0 q1 q2 q3 q4 q5 qz0 qz1 qz2 qz3 qz4 qz5 l5 b5 HZ9 hgl
     have rp8 := HRp.out.later L8.out
     have x0 := (R8.out.later (Later.refl _)).cell (i := 0) rfl; have x1 := (R8.out.later (Later.refl _)).cell (i := 1) rfl; have x2 := (R8.out.later (Later.refl _)).cell (i := 2) rfl; have x3 := (R8.out.later (Later.refl _)).cell (i := 3) rfl; have x4 := (R8.out.later (Later.refl _)).cell (i := 4) rfl; have x5 := (R8.out.later (Later.refl _)).cell (i := 5) rfl
     have k0 := rp8.cell (i := 0) rfl; have kz0 := rp8.frozen 0; have k1 := rp8.cell (i := 1) rfl; have kz1 := rp8.frozen 1; have k2 := rp8.cell (i := 2) rfl; have kz2 := rp8.frozen 2; have k3 := rp8.cell (i := 3) rfl; have kz3 := rp8.frozen 3; have k4 := rp8.cell (i := 4) rfl; have kz4 := rp8.frozen 4; have k5 := rp8.cell (i := 5) rfl; have kz5 := rp8.frozen 5
     have HRp8 := hide rp8
     clear rp8
     go_wp2_with fail
     obtain ⟨W9, hW9⟩ : ∃ W, W = ((((((W8.setCell ⟨gB, 0, none⟩ (.slice B1q m1q d1q)).setCell ⟨gB, 1, none⟩ (.int .i64 D'.hor)).setCell ⟨gB, 2, none⟩ (.int .i64 D'.now)).setCell ⟨gB, 3, none⟩ (.slice B2q m2q d2q)).setCell ⟨gB, 4, none⟩ (.slice B3q m3q d3q)).setCell ⟨gB, 5, none⟩ (.slice B4q m4q d4q)) := ⟨_, rfl⟩
     have oo9 : Only gB W8 W9 := by rw [hW9]; exact only6 gB (.slice B1q m1q d1q) (.int .i64 D'.hor) (.int .i64 D'.now) (.slice B2q m2q d2q) (.slice B3q m3q d3q) (.slice B4q m4q d4q)
     have R9 : Row W9 gB 27 [.slice B1q m1q d1q, .int .i64 D'.hor, .int .i64 D'.now, .slice B2q m2q d2q, .slice B3q m3q d3q, .slice B4q m4q d4q] := by rw [hW9]; exact HRp8.out.put6 _ _ _ _ _ _
     rw [<- hW9]
     clear hW9
     exact ⟨⟨j+1, D', by go_num, by omega, hide ⟨B1q, B2q, B3q, B4q, m1q, m2q, m3q, m4q, d1q, d2q, d3q, d4q, R9, K8.out.box (IsBox.book HRp8.out) oo9⟩, hide (HS.out.apply HR.out), hide (items_of_ok HR.out HI.out), hide ((HL.out.trans L8.out).only oo9 HGB.out)⟩, by simp [intOf]; omega⟩
    refine AllReadyN.held rfl (by rfl) (fun K hK => ?_) AllReadyN.nil
    go_simp
    obtain ⟨g8, hg8⟩ : ∃ g, g = wz.heap.size := ⟨_, rfl⟩
    rw [<- hg8]
    have hgl : wz.heap.size <= g8 := by rw [hg8]; exact Nat.le_refl _
    have HZ8 : Hid (Row (wz.drew.alloc (Obj.cells #[Value.slice none 0 0, Value.int .i64 0, Value.int .i64 0, Value.slice none 0 0, Value.slice none 0 0, Value.slice none 0 0] 27)) g8 27 [.slice none 0 0, .int .i64 0, .int .i64 0, .slice none 0 0, .slice none 0 0, .slice none 0 0]) := hide (by rw [hg8]; exact Row.new wz.drew _ _)
    clear hg8
    refine hK.out _ _ ?_ (fun hHeld => ?_)
    ·exact HT1.out _ lt_
    clear hK K
    try simp only [Act.put, s1_, s2_, s3_]
    refine wpAnyN_ready (rs := [5]) (by kernel_rfl) (by simp) ?_
    refine AllReadyN.held rfl (by rfl) (fun K hK => ?_) AllReadyN.nil
    go_simp
    refine (HCA.out _ lt_).mono ?_
    rintro e a5 h1
    unfold CauP at h1
    dsimp only at h1
    obtain ⟨b5, hm5, B1q, B2q, B3q, B4q, m1q, m2q, m3q, m4q, d1q, d2q, d3q, d4q, rfl, hk5⟩ := h1
    have HK5 := hide hk5; have HM5 := hide hm5
    clear hk5 hm5
    have hz8 := HZ8.out.later b5
    have q0 := hz8.cell (i := 0) rfl; have qz0 := hz8.frozen 0; have q1 := hz8.cell (i := 1) rfl; have qz1 := hz8.frozen 1; have q2 := hz8.cell (i := 2) rfl; have qz2 := hz8.frozen 2; have q3 := hz8.cell (i := 3) rfl; have qz3 := hz8.frozen 3; have q4 := hz8.cell (i := 4) rfl; have qz4 := hz8.frozen 4; have q5 := hz8.cell (i := 5) rfl; have qz5 := hz8.frozen 5
    have HZ9 := hide hz8
    clear hz8
    have l5 : Later wz a5 := Later.trans lt_ b5
    refine hK.out _ _ ?_ (fun hHeld => ?_)
    ·exact HT1.out _ lt_
    clear hK K
    try simp only [Act.put, s1_, s2_, s3_]
    refine tkB 43 6 ?_
    refine tkB 50 7 ?_
    refine tkB 51 8 ?_
    refine wpAnyN_ready (rs := [10]) (by kernel_rfl) (by simp) ?_
    refine AllReadyN.held rfl (by rfl) (fun K hK => ?_) AllReadyN.nil
    go_simp
    refine hK.out _ _ ?_ (fun hHeld => ?_)
    ·exact HT1.out _ (Later.setCell (Later.setCell (Later.setCell (Later.setCell (Later.setCell (Later.setCell l5 hgl _) hgl _) hgl _) hgl _) hgl _) hgl _)
    clear hK K
    try simp only [Act.put, s1_, s2_, s3_]
    refine tkB 9 11 ?_
    refine wpAnyN_done (by kernel_rfl) ?_ _
    clear hHeld
    obtain ⟨W8, hW8⟩ : ∃ W, W = ((((((a5.setCell ⟨g8, 0, none⟩ (.slice B1q m1q d1q)).setCell ⟨g8, 1, none⟩ (.int .i64 D'.hor)).setCell ⟨g8, 2, none⟩ (.int .i64 D'.now)).setCell ⟨g8, 3, none⟩ (.slice B2q m2q d2q)).setCell ⟨g8, 4, none⟩ (.slice B3q m3q d3q)).setCell ⟨g8, 5, none⟩ (.slice B4q m4q d4q)) := ⟨_, rfl⟩
    have oo8 : Only g8 a5 W8 := by rw [hW8]; exact only6 g8 (.slice B1q m1q d1q) (.int .i64 D'.hor) (.int .i64 D'.now) (.slice B2q m2q d2q) (.slice B3q m3q d3q) (.slice B4q m4q d4q)
    have R8 : Hid (Row W8 g8 27 [.slice B1q m1q d1q, .int .i64 D'.hor, .int .i64 D'.now, .slice B2q m2q d2q, .slice B3q m3q d3q, .slice B4q m4q d4q]) := hide (by rw [hW8]; exact HZ9.out.put6 _ _ _ _ _ _)
    have L8 : Hid (Later wz W8) := hide (Later.only l5 oo8 hgl)
    have HG8 := hide hgl
    have K8 : Hid (BkN w.heap.size W8 (.slice B1q m1q d1q) (.slice B2q m2q d2q) (.slice B3q m3q d3q) (.slice B4q m4q d4q) D') := hide (((HK5.out.weaken (HL.out.drew.alloc _).size)).box (IsBox.book HZ9.out) oo8)
    rw [<- hW8]
    clear hW8 oo8 q0 q1 q2 q3 q4 q5 qz0 qz1 qz2 qz3 qz4 qz5 l5 b5 HZ9 hgl
    have rp8 := HRp.out.later L8.out
    have x0 := (R8.out.later (Later.refl _)).cell (i := 0) rfl; have x1 := (R8.out.later (Later.refl _)).cell (i := 1) rfl; have x2 := (R8.out.later (Later.refl _)).cell (i := 2) rfl; have x3 := (R8.out.later (Later.refl _)).cell (i := 3) rfl; have x4 := (R8.out.later (Later.refl _)).cell (i := 4) rfl; have x5 := (R8.out.later (Later.refl _)).cell (i := 5) rfl
    have k0 := rp8.cell (i := 0) rfl; have kz0 := rp8.frozen 0; have k1 := rp8.cell (i := 1) rfl; have kz1 := rp8.frozen 1; have k2 := rp8.cell (i := 2) rfl; have kz2 := rp8.frozen 2; have k3 := rp8.cell (i := 3) rfl; have kz3 := rp8.frozen 3; have k4 := rp8.cell (i := 4) rfl; have kz4 := rp8.frozen 4; have k5 := rp8.cell (i := 5) rfl; have kz5 := rp8.frozen 5
    have HRp8 := hide rp8
    clear rp8
    go_wp2_with fail
    obtain ⟨W9, hW9⟩ : ∃ W, W = ((((((W8.setCell ⟨gB, 0, none⟩ (.slice B1q m1q d1q)).setCell ⟨gB, 1, none⟩ (.int .i64 D'.hor)).setCell ⟨gB, 2, none⟩ (.int .i64 D'.now)).setCell ⟨gB, 3, none⟩ (.slice B2q m2q d2q)).setCell ⟨gB, 4, none⟩ (.slice B3q m3q d3q)).setCell ⟨gB, 5, none⟩ (.slice B4q m4q d4q)) := ⟨_, rfl⟩
    have oo9 : Only gB W8 W9 := by rw [hW9]; exact only6 gB (.slice B1q m1q d1q) (.int .i64 D'.hor) (.int .i64 D'.now) (.slice B2q m2q d2q) (.slice B3q m3q d3q) (.slice B4q m4q d4q)
    have R9 : Row W9 gB 27 [.slice B1q m1q d1q, .int .i64 D'.hor, .int .i64 D'.now, .slice B2q m2q d2q, .slice B3q m3q d3q, .slice B4q m4q d4q] := by rw [hW9]; exact HRp8.out.put6 _ _ _ _ _ _
    rw [<- hW9]
    clear hW9
    exact ⟨⟨j+1, D', by go_num, by omega, hide ⟨B1q, B2q, B3q, B4q, m1q, m2q, m3q, m4q, d1q, d2q, d3q, d4q, R9, K8.out.box (IsBox.book HRp8.out) oo9⟩, hide (HS.out.apply HR.out), hide (items_of_ok HR.out HI.out), hide ((HL.out.trans L8.out).only oo9 HGB.out)⟩, by simp [intOf]; omega⟩
  | error c =>
    refine wp_region_N (fun w' => w'.cell? ⟨gB, 0, none⟩ = some (.slice B1p m1p d1p) /\ w'.cell? ⟨gB, 1, none⟩ = some (.int .i64 D.hor) /\ w'.cell? ⟨gB, 2, none⟩ = some (.int .i64 D.now) /\ w'.cell? ⟨gB, 3, none⟩ = some (.slice B2p m2p d2p) /\ w'.cell? ⟨gB, 4, none⟩ = some (.slice B3p m3p d3p) /\ w'.cell? ⟨gB, 5, none⟩ = some (.slice B4p m4p d4p) /\ w'.cell? ⟨b1, off1 + j * 9, none⟩ = some (.int .i64 o.kind) /\ w'.cell? ⟨b1, off1 + j * 9 + 1, none⟩ = some (.int .i64 o.ord.id) /\ w'.cell? ⟨b1, off1 + j * 9 + 2, none⟩ = some (.int .i64 o.ord.item) /\ w'.cell? ⟨b1, off1 + j * 9 + 3, none⟩ = some (.int .i64 o.ord.due) /\ w'.cell? ⟨b1, off1 + j * 9 + 4, none⟩ = some (.int .i64 o.ord.qty) /\ w'.cell? ⟨b1, off1 + j * 9 + 5, none⟩ = some (.int .i64 o.id) /\ w'.cell? ⟨b1, off1 + j * 9 + 6, none⟩ = some (.int .i64 o.period) /\ w'.cell? ⟨b1, off1 + j * 9 + 7, none⟩ = some (.int .i64 o.qty) /\ w'.cell? ⟨b1, off1 + j * 9 + 8, none⟩ = some (.slice Aq nq cq)) [] hmx (HT1.out _ lt_) (fun hHeld => ?_)
    refine tkB 44 0 ?_
    refine tkB 45 1 ?_
    refine tkB 46 2 ?_
    refine tkB 47 3 ?_
    refine tkB 48 4 ?_
    refine wpAnyN_ready (rs := [5, 9]) (by kernel_rfl) (by simp) ?_
    refine AllReadyN.held rfl (by rfl) (fun K hK => ?_) ?_
    ·go_simp
     refine (HCA.out _ lt_).mono ?_
     rintro e a5 ⟨b5, rfl⟩
     have l5 : Later wz a5 := Later.trans lt_ b5
     refine hK.out _ _ ?_ (fun hHeld => ?_)
     ·exact HT1.out _ lt_
     clear hK K
     try simp only [Act.put, s1_, s2_, s3_]
     refine tkB 43 6 ?_
     refine tkB 50 7 ?_
     refine tkB 51 8 ?_
     refine wpAnyN_ready (rs := [9]) (by kernel_rfl) (by simp) ?_
     refine AllReadyN.held rfl (by rfl) (fun K hK => ?_) AllReadyN.nil
     go_simp
     obtain ⟨g8, hg8⟩ : ∃ g, g = a5.heap.size := ⟨_, rfl⟩
     rw [<- hg8]
     have hgl : wz.heap.size <= g8 := by rw [hg8]; exact l5.size
     have hz8 : Row (a5.alloc (Obj.cells #[Value.slice none 0 0, Value.int .i64 0, Value.int .i64 0, Value.slice none 0 0, Value.slice none 0 0, Value.slice none 0 0] 27)) g8 27 [.slice none 0 0, .int .i64 0, .int .i64 0, .slice none 0 0, .slice none 0 0, .slice none 0 0] := by rw [hg8]; exact Row.new _ _ _
     have q0 := hz8.cell (i := 0) rfl; have qz0 := hz8.frozen 0; have q1 := hz8.cell (i := 1) rfl; have qz1 := hz8.frozen 1; have q2 := hz8.cell (i := 2) rfl; have qz2 := hz8.frozen 2; have q3 := hz8.cell (i := 3) rfl; have qz3 := hz8.frozen 3; have q4 := hz8.cell (i := 4) rfl; have qz4 := hz8.frozen 4; have q5 := hz8.cell (i := 5) rfl; have qz5 := hz8.frozen 5
     have HZ9 := hide hz8
     clear hz8 hg8
     refine hK.out _ _ ?_ (fun hHeld => ?_)
     ·exact HT1.out _ lt_
     clear hK K
     try simp only [Act.put, s1_, s2_, s3_]
     refine wpAnyN_ready (rs := [10]) (by kernel_rfl) (by simp) ?_
     refine AllReadyN.held rfl (by rfl) (fun K hK => ?_) AllReadyN.nil
     go_simp
     refine hK.out _ _ ?_ (fun hHeld => ?_)
     ·exact HT1.out _ (Later.setCell (Later.setCell (Later.setCell (Later.setCell (Later.setCell (Later.setCell (l5.alloc _) hgl _) hgl _) hgl _) hgl _) hgl _) hgl _)
     clear hK K
     try simp only [Act.put, s1_, s2_, s3_]
     refine tkB 9 11 ?_
     refine wpAnyN_done (by kernel_rfl) ?_ _
     clear hHeld
     obtain ⟨W8, hW8⟩ : ∃ W, W = (((((((a5.alloc (Obj.cells #[Value.slice none 0 0, Value.int .i64 0, Value.int .i64 0, Value.slice none 0 0, Value.slice none 0 0, Value.slice none 0 0] 27)).setCell ⟨g8, 0, none⟩ (.slice none 0 0)).setCell ⟨g8, 1, none⟩ (.int .i64 0)).setCell ⟨g8, 2, none⟩ (.int .i64 0)).setCell ⟨g8, 3, none⟩ (.slice none 0 0)).setCell ⟨g8, 4, none⟩ (.slice none 0 0)).setCell ⟨g8, 5, none⟩ (.slice none 0 0)) := ⟨_, rfl⟩
     have oo8 : Only g8 (a5.alloc (Obj.cells #[Value.slice none 0 0, Value.int .i64 0, Value.int .i64 0, Value.slice none 0 0, Value.slice none 0 0, Value.slice none 0 0] 27)) W8 := by rw [hW8]; exact only6 g8 (.slice none 0 0) (.int .i64 0) (.int .i64 0) (.slice none 0 0) (.slice none 0 0) (.slice none 0 0)
     have R8 : Hid (Row W8 g8 27 [.slice none 0 0, .int .i64 0, .int .i64 0, .slice none 0 0, .slice none 0 0, .slice none 0 0]) := hide (by rw [hW8]; exact HZ9.out.put6 _ _ _ _ _ _)
     have L8 : Hid (Later wz W8) := hide (Later.only (l5.alloc _) oo8 hgl)
     have HG8 := hide hgl
     rw [<- hW8]
     clear hW8 oo8 q0 q1 q2 q3 q4 q5 qz0 qz1 qz2 qz3 qz4 qz5 l5 b5 HZ9 hgl
     have t4 : (c == 0) = false := by simpa using apply_err HR.out
     go_wp2_with fail
     exact ⟨⟨j+1, D, by go_num, by omega, hide (HB.out.later L8.out), HS, HI, hide (HL.out.trans L8.out)⟩, by simp [intOf]; omega⟩
    refine AllReadyN.held rfl (by rfl) (fun K hK => ?_) AllReadyN.nil
    go_simp
    obtain ⟨g8, hg8⟩ : ∃ g, g = wz.heap.size := ⟨_, rfl⟩
    rw [<- hg8]
    have hgl : wz.heap.size <= g8 := by rw [hg8]; exact Nat.le_refl _
    have HZ8 : Hid (Row (wz.drew.alloc (Obj.cells #[Value.slice none 0 0, Value.int .i64 0, Value.int .i64 0, Value.slice none 0 0, Value.slice none 0 0, Value.slice none 0 0] 27)) g8 27 [.slice none 0 0, .int .i64 0, .int .i64 0, .slice none 0 0, .slice none 0 0, .slice none 0 0]) := hide (by rw [hg8]; exact Row.new wz.drew _ _)
    clear hg8
    refine hK.out _ _ ?_ (fun hHeld => ?_)
    ·exact HT1.out _ lt_
    clear hK K
    try simp only [Act.put, s1_, s2_, s3_]
    refine wpAnyN_ready (rs := [5]) (by kernel_rfl) (by simp) ?_
    refine AllReadyN.held rfl (by rfl) (fun K hK => ?_) AllReadyN.nil
    go_simp
    refine (HCA.out _ lt_).mono ?_
    rintro e a5 ⟨b5, rfl⟩
    have hz8 := HZ8.out.later b5
    have q0 := hz8.cell (i := 0) rfl; have qz0 := hz8.frozen 0; have q1 := hz8.cell (i := 1) rfl; have qz1 := hz8.frozen 1; have q2 := hz8.cell (i := 2) rfl; have qz2 := hz8.frozen 2; have q3 := hz8.cell (i := 3) rfl; have qz3 := hz8.frozen 3; have q4 := hz8.cell (i := 4) rfl; have qz4 := hz8.frozen 4; have q5 := hz8.cell (i := 5) rfl; have qz5 := hz8.frozen 5
    have HZ9 := hide hz8
    clear hz8
    have l5 : Later wz a5 := Later.trans lt_ b5
    refine hK.out _ _ ?_ (fun hHeld => ?_)
    ·exact HT1.out _ lt_
    clear hK K
    try simp only [Act.put, s1_, s2_, s3_]
    refine tkB 43 6 ?_
    refine tkB 50 7 ?_
    refine tkB 51 8 ?_
    refine wpAnyN_ready (rs := [10]) (by kernel_rfl) (by simp) ?_
    refine AllReadyN.held rfl (by rfl) (fun K hK => ?_) AllReadyN.nil
    go_simp
    refine hK.out _ _ ?_ (fun hHeld => ?_)
    ·exact HT1.out _ (Later.setCell (Later.setCell (Later.setCell (Later.setCell (Later.setCell (Later.setCell l5 hgl _) hgl _) hgl _) hgl _) hgl _) hgl _)
    clear hK K
    try simp only [Act.put, s1_, s2_, s3_]
    refine tkB 9 11 ?_
    refine wpAnyN_done (by kernel_rfl) ?_ _
    clear hHeld
    obtain ⟨W8, hW8⟩ : ∃ W, W = ((((((a5.setCell ⟨g8, 0, none⟩ (.slice none 0 0)).setCell ⟨g8, 1, none⟩ (.int .i64 0)).setCell ⟨g8, 2, none⟩ (.int .i64 0)).setCell ⟨g8, 3, none⟩ (.slice none 0 0)).setCell ⟨g8, 4, none⟩ (.slice none 0 0)).setCell ⟨g8, 5, none⟩ (.slice none 0 0)) := ⟨_, rfl⟩
    have oo8 : Only g8 a5 W8 := by rw [hW8]; exact only6 g8 (.slice none 0 0) (.int .i64 0) (.int .i64 0) (.slice none 0 0) (.slice none 0 0) (.slice none 0 0)
    have R8 : Hid (Row W8 g8 27 [.slice none 0 0, .int .i64 0, .int .i64 0, .slice none 0 0, .slice none 0 0, .slice none 0 0]) := hide (by rw [hW8]; exact HZ9.out.put6 _ _ _ _ _ _)
    have L8 : Hid (Later wz W8) := hide (Later.only l5 oo8 hgl)
    have HG8 := hide hgl
    rw [<- hW8]
    clear hW8 oo8 q0 q1 q2 q3 q4 q5 qz0 qz1 qz2 qz3 qz4 qz5 l5 b5 HZ9 hgl
    have t4 : (c == 0) = false := by simpa using apply_err HR.out
    go_wp2_with fail
    exact ⟨⟨j+1, D, by go_num, by omega, hide (HB.out.later L8.out), HS, HI, hide (HL.out.trans L8.out)⟩, by simp [intOf]; omega⟩
end Go.Proofs.YtncbebfhakcgdaaGreat
