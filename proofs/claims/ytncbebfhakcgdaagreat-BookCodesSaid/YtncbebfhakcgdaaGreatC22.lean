/- Books: the closures of commit; what is committed for a period taken out (slices.DeleteFunc). -/
import Derived.Test.YtncbebfhakcgdaaGreatC21
import Derived.Test.YtncbebfhakcgdaaGreatC7
import Derived.Sort.Grow
import Derived.Shelf.SlSortCmp.WholeK
import Derived.Test.YtncbebfhakcgdaaGreatProg
set_option linter.unusedVariables false
set_option linter.unusedSimpArgs false
set_option maxRecDepth 100000
namespace Go.Proofs.YtncbebfhakcgdaaGreat
open Go.RowKit Go.Shelf
attribute [local go_sem ↓] Go.wp_at_zero Go.wp_at_succ
set_option maxHeartbeats 4000000 in
theorem com1_calls (w : World) (n : Int) :
 Calls Tryz.prog 80 #[.int .i64 n] w (RetV w (.bool (decide (n < 0 ∨ 100 < n)))) := by
 by_cases h1 : n < 0
 ·have t1 : decide (n < 0) = true := by simpa using h1
  have t2 : decide (n < 0 ∨ 100 < n) = true := by simpa using Or.inl h1
  go_enter Tryz.func80, Tryz.ntmps80
  go_wp2_with fail
  go_ret
  exact ⟨by first | (rw [t2]; rfl) | (simp [t2]; done) | (rw [t2]), Later.refl w⟩
 ·have t1 : decide (n < 0) = false := by simpa using h1
  obtain ⟨u, hu⟩ : ∃ u, decide (100 < n) = u := ⟨_, rfl⟩
  have t2 : decide (n < 0 ∨ 100 < n) = u := by rw [<- hu]; simp [h1]
  rw [t2]
  clear t2
  go_enter Tryz.func80, Tryz.ntmps80
  go_wp2_with fail
  go_ret
  exact ⟨by first | rfl | (rw [hu]; rfl) | (simp [hu]; done), Later.refl w⟩
theorem gr3 (w : World) (a b c : Obj) : ∃ q os', (((w.alloc a).alloc b).alloc c).drew = Go.Sort.grow (w.drewN q) os' := by
 refine ⟨1, #[a] ++ (#[b] ++ #[c]), ?_⟩
 show (((w.drewN 1).alloc a).alloc b).alloc c = _
 rw [Go.Sort.alloc_eq_grow, Go.Sort.alloc_eq_grow, Go.Sort.alloc_eq_grow, Go.Sort.grow_grow, Go.Sort.grow_grow]
set_option maxHeartbeats 4000000 in
theorem com2_calls (w : World) (x y : PMk) (z : Int) (hz : cmpM x y = z) :
 Calls Tryz.prog 84 #[.agg #[.int .i64 x.item, .int .i64 x.period, .int .i64 x.qty], .agg #[.int .i64 y.item, .int .i64 y.period, .int .i64 y.qty]] w (fun e w' => e = .returned (.int .i64 z) /\ ∃ q os', w' = Go.Sort.grow (w.drewN q) os') := by
 obtain ⟨z1, h1⟩ : ∃ z1, cmpI x.period y.period = z1 := ⟨_, rfl⟩
 obtain ⟨z2, h2⟩ : ∃ z2, cmpI x.item y.item = z2 := ⟨_, rfl⟩
 unfold cmpM at hz
 rw [h1, h2] at hz
 have HZ := hide hz; have H1 := hide h1; have H2 := hide h2
 clear hz h1 h2
 obtain ⟨W0, hW0⟩ : ∃ W0, W0 = ((w.alloc (Obj.cells #[Value.int .i64 x.item, Value.int .i64 x.period, Value.int .i64 x.qty] 43)).alloc (Obj.cells #[Value.int .i64 y.item, Value.int .i64 y.period, Value.int .i64 y.qty] 43)) := ⟨_, rfl⟩
 obtain ⟨hb0, r0, r1, hsz0⟩ := boxes2 w [.int .i64 x.item, .int .i64 x.period, .int .i64 x.qty] [.int .i64 y.item, .int .i64 y.period, .int .i64 y.qty] 43 43 hW0
 have B0 := hide hb0; have HW0 := hide hW0
 have R0 := hide r0; have R1 := hide r1
 clear hb0 hW0 hsz0 r0 r1
 go_enter Tryz.func84, Tryz.ntmps84
 go_upto_region 1 with fail
 rw [<- HW0.out]
 have hr0 := R0.out.later (Later.refl W0).drew; have hr1 := R1.out.later (Later.refl W0).drew
 have HT1 : Hid (∀ w', Later W0.drew w' -> w'.cell? ⟨w.heap.size, 0, none⟩ = some (.int .i64 x.item) /\ w'.cell? ⟨w.heap.size, 1, none⟩ = some (.int .i64 x.period) /\ w'.cell? ⟨w.heap.size, 2, none⟩ = some (.int .i64 x.qty) /\ w'.cell? ⟨w.heap.size + 1, 0, none⟩ = some (.int .i64 y.item) /\ w'.cell? ⟨w.heap.size + 1, 1, none⟩ = some (.int .i64 y.period) /\ w'.cell? ⟨w.heap.size + 1, 2, none⟩ = some (.int .i64 y.qty)) := hide fun w' hb => ⟨(hr0.later hb).cell rfl, (hr0.later hb).cell rfl, (hr0.later hb).cell rfl, (hr1.later hb).cell rfl, (hr1.later hb).cell rfl, (hr1.later hb).cell rfl⟩
 clear hr0 hr1
 have hmx : Tryz.prog.follows .mixedOrders = true := by kernel_rfl
 refine wp_region_N (fun w' => w'.cell? ⟨w.heap.size, 0, none⟩ = some (.int .i64 x.item) /\ w'.cell? ⟨w.heap.size, 1, none⟩ = some (.int .i64 x.period) /\ w'.cell? ⟨w.heap.size, 2, none⟩ = some (.int .i64 x.qty) /\ w'.cell? ⟨w.heap.size + 1, 0, none⟩ = some (.int .i64 y.item) /\ w'.cell? ⟨w.heap.size + 1, 1, none⟩ = some (.int .i64 y.period) /\ w'.cell? ⟨w.heap.size + 1, 2, none⟩ = some (.int .i64 y.qty)) [] hmx (HT1.out _ (Later.refl _)) (fun hHeld => ?_)
 refine tkB 5 0 ?_
 refine tkB 6 1 ?_
 refine tkB 7 2 ?_
 refine tkB 8 3 ?_
 refine tkB 10 5 ?_
 refine tkB 11 6 ?_
 refine tkB 12 7 ?_
 refine tkB 13 8 ?_
 refine wpAnyN_ready (rs := [4]) (by kernel_rfl) (by simp) ?_
 refine AllReadyN.held rfl (by rfl) (fun K hK => ?_) AllReadyN.nil
 go_simp
 refine (icompare_calls _ _ _ _ H1.out).mono ?_
 rintro e w4 ⟨rfl, rfl⟩
 refine hK.out _ _ ?_ (fun hHeld => ?_)
 ·exact HT1.out _ (Later.refl _)
 clear hK K
 try simp only [Act.put, s1_, s2_, s3_]
 refine wpAnyN_ready (rs := [9]) (by kernel_rfl) (by simp) ?_
 refine AllReadyN.held rfl (by rfl) (fun K hK => ?_) AllReadyN.nil
 go_simp
 refine (icompare_calls _ _ _ _ H2.out).mono ?_
 rintro e w9 ⟨rfl, rfl⟩
 refine hK.out _ _ ?_ (fun hHeld => ?_)
 ·exact HT1.out _ (Later.refl _)
 clear hK K
 try simp only [Act.put, s1_, s2_, s3_]
 refine wpAnyN_ready (rs := [10]) (by kernel_rfl) (by simp) ?_
 refine AllReadyN.held rfl (by rfl) (fun K hK => ?_) AllReadyN.nil
 go_simp
 refine hK.out _ _ ?_ (fun hHeld => ?_)
 ·exact HT1.out _ ((Later.refl _).alloc _)
 clear hK K
 try simp only [Act.put, s1_, s2_, s3_]
 refine wpAnyN_ready (rs := [11]) (by kernel_rfl) (by simp) ?_
 refine AllReadyN.held rfl (by rfl) (fun K hK => ?_) AllReadyN.nil
 go_simp
 refine (cor_calls _ _ _ _ [z1, z2] (sq_two (Row.new W0.drew 3 [.int .i64 z1, .int .i64 z2])) (by simp) _ HZ.out).mono ?_
 rintro e w11 ⟨rfl, rfl⟩
 refine hK.out _ _ ?_ (fun hHeld => ?_)
 ·exact HT1.out _ ((Later.refl _).alloc _)
 clear hK K
 try simp only [Act.put, s1_, s2_, s3_]
 refine tkB 4 12 ?_
 refine wpAnyN_done (by kernel_rfl) ?_ _
 clear hHeld
 go_wp2_with fail
 go_ret
 exact ⟨rfl, by rw [HW0.out]; exact gr3 _ _ _ _⟩
set_option maxHeartbeats 4000000 in
theorem old1_calls (w : World) (x : PMk) (G : Nat) (p : Int) (h1 : w.cell? ⟨G, 0, none⟩ = some (.int .i64 p)) :
 Calls Tryz.prog 111 #[.agg #[.int .i64 x.item, .int .i64 x.period, .int .i64 x.qty], .pointer (some ⟨G, 0, none⟩)] w (RetV w (.bool (decide (x.period = p)))) := by
 have H1 := hide h1
 clear h1
 obtain ⟨W0, hW0⟩ : ∃ W0, W0 = (w.alloc (Obj.cells #[Value.int .i64 x.item, Value.int .i64 x.period, Value.int .i64 x.qty] 43)) := ⟨_, rfl⟩
 have B0 := hide (show Later w W0 by rw [hW0]; exact (Later.refl _).alloc _)
 have HR0 := hide (show Row W0 w.heap.size 43 [.int .i64 x.item, .int .i64 x.period, .int .i64 x.qty] by rw [hW0]; exact Row.new _ _ _)
 have HW0 := hide hW0
 clear hW0
 go_enter Tryz.func111, Tryz.ntmps111
 go_upto_region 1 with fail
 rw [<- HW0.out]
 have d1 := HR0.out.cell (i := 1) rfl
 have g0 := Later.cell B0.out H1.out
 go_wp2_with fail
 go_ret
 exact ⟨by first | rfl | simp | (simp; rfl), B0.out⟩
theorem zero_mk (w : World) : (zeroValue 43).run Tryz.prog w = .ok (.agg #[.int .i64 0, .int .i64 0, .int .i64 0]) w := by
 obtain ⟨i, hi, hz, hs, hb⟩ := info_parts info_m3
 simp [zeroValue, typeInfo, hi, hz, go_sem]
def notP (p : Int) (l : List PMk) : List PMk := l.filter fun x => decide (x.period ≠ p)
theorem notP_snoc (p : Int) (l : List PMk) (j : Nat) (x : PMk) (h : l[j]? = some x) : notP p (l.take (j + 1)) = if x.period = p then notP p (l.take j) else notP p (l.take j) ++ [x] := by
 unfold notP
 rw [List.take_add_one, h, List.filter_append]
 split
 ·rename_i e; simp [e]
 ·rename_i e; simp [e]
theorem set3_take {cs : List Value} {o : Nat} {a b d : Value} (h : o + 3 <= cs.length) : (((cs.set o a).set (o + 1) b).set (o + 2) d).take (o + 3) = cs.take o ++ [a, b, d] := by
 apply List.ext_getElem?
 intro k
 rw [List.getElem?_take, List.getElem?_append, List.length_take, Nat.min_eq_left (by omega)]
 by_cases h1 : k < o
 ·rw [if_pos (by omega), if_pos h1, List.getElem?_set_ne (by omega), List.getElem?_set_ne (by omega), List.getElem?_set_ne (by omega), List.getElem?_take_of_lt h1]
 ·rw [if_neg h1]
  by_cases h2 : k < o + 3
  ·rw [if_pos h2]
   rcases (by omega : k = o ∨ k = o + 1 ∨ k = o + 2) with e | e | e
   ·subst e; rw [List.getElem?_set_ne (by omega), List.getElem?_set_ne (by omega), List.getElem?_set_self (by omega), Nat.sub_self]; rfl
   ·subst e; rw [List.getElem?_set_ne (by omega), List.getElem?_set_self (by simp; omega), show o + 1 - o = 1 by omega]; rfl
   ·subst e; rw [List.getElem?_set_self (by simp; omega), show o + 2 - o = 2 by omega]; rfl
  ·rw [if_neg h2, List.getElem?_eq_none (by simp; omega)]
theorem set3_far {cs : List Value} {o k : Nat} {a b d : Value} (h : o + 3 <= k) : (((cs.set o a).set (o + 1) b).set (o + 2) d)[k]? = cs[k]? := by
 rw [List.getElem?_set_ne (by omega), List.getElem?_set_ne (by omega), List.getElem?_set_ne (by omega)]
def DelP (w : World) (lo : Nat) (A : Option Addr) (n c : Nat) (m : List PMk) (e : Ending) (w' : World) : Prop := e = .returned (.slice A m.length c) /\ w'.ownsRow lo 43 3 (.slice A m.length c) m.length (m.flatMap mCells) /\ w.grownBy w' (Value.slice A n c).ownBlock
set_option maxHeartbeats 400000 in
theorem delM_calls (w : World) (lo : Nat) (A : Option Addr) (n c : Nat) (l : List PMk) (hln : n = l.length) (hO : w.ownsRow lo 43 3 (.slice A n c) l.length (l.flatMap mCells)) (hn1 : n <= 1000) (G0 : Nat) (p : Int) (h0 : Row w G0 3 [.int .i64 p]) (hne : ∀ k, (Value.slice A n c).ownBlock = some k -> k ≠ G0) :
 Calls Tryz.prog 110 #[.slice A n c, .func (.func 111) #[] #[.pointer (some ⟨G0, 0, none⟩)]] w (DelP w lo A n c (notP p l)) := by
 subst hln
 have HO := hide hO; have H0 := hide h0
 clear hO h0
 go_enter Tryz.func110, Tryz.ntmps110
 go_upto_region 2 with (go_at_call 105; (with_reducible refine (idxM1_calls _ _ l (Sq.of_own (lo := lo) (T := 43) mCells_len HO.out) (by omega) _ ⟨fun _ _ => by kernel_rfl⟩ G0 (fun x => decide (x.period = p)) (fun W x hW _ => old1_calls W x G0 p ((H0.out.later hW).cell rfl))).mono ?_); rintro e w1 ⟨z, rfl, hz, b1⟩)
 rcases hz with ⟨rfl, hz⟩ | ⟨i0, x0, rfl, hx0, hp0, hz⟩
 ·have HF : Hid (notP p l = l) := hide (filt_all fun x hx => by have := hz x hx; simp at this; simpa using this)
  clear hz
  go_wp2_with fail
  go_ret
  rw [HF.out]
  refine ⟨rfl, own_later HO.out b1, ⟨b1.os, b1.tape, b1.output, b1.size, fun b hb _ => b1.block b hb⟩⟩
 ·have hil := (List.getElem?_eq_some_iff.1 hx0).1
  obtain ⟨g, rfl⟩ := own_some HO.out (by omega)
  obtain ⟨-, -, hb, hnc, hcm, cs0, hr, hl, hx⟩ := own_row HO.out
  have hc2 : c <= 9223372036854775807 := hcm
  have hzi : ((i0 : Int) == -1) = false := by rw [beq_eq_false_iff_ne]; omega
  have hg0 : g ≠ G0 := hne g rfl
  have HGW := hide hr.lt; have HG0W := hide H0.out.lt
  have N0 : Hid (notP p (l.take (i0 + 1)) = l.take i0) := hide (by
   have h1 : notP p (l.take i0) = l.take i0 := filt_all fun x hx => by
    obtain ⟨k, hk, rfl⟩ := List.getElem_of_mem hx
    rw [List.length_take] at hk
    have := hz k ((l.take i0)[k]'(by rw [List.length_take]; omega)) (by omega) (by rw [List.getElem_take]; exact List.getElem?_eq_getElem _)
    simp at this; simpa using this
   rw [notP_snoc p l i0 x0 hx0, if_pos (by simpa using hp0), h1])
  have HR1 := hide (hr.later b1); have HX := hide hx; have H01 := hide (H0.out.later b1)
  have HG1 : Hid (w.grownBy w1 (some g)) := hide ⟨b1.os, b1.tape, b1.output, b1.size, fun b hb _ => b1.block b hb⟩
  clear hz hp0 hr hx b1
  go_wp2_with fail
  go_loopw [5, 6] (fun iv jv wr => ∃ (i j : Nat) (cs : List Value), iv = .int .i64 (i : Int) /\ jv = .int .i64 (j : Int) /\ i < j /\ j <= l.length /\ Hid (i = (notP p (l.take j)).length) /\ Hid (Row wr g 43 cs) /\ Hid (cs.length = c * 3) /\ Hid (cs.take (i * 3) = (notP p (l.take j)).flatMap mCells) /\ Hid (∀ k, j * 3 <= k -> k < l.length * 3 -> cs[k]? = (l.flatMap mCells)[k]?) /\ Hid (w.grownBy wr (some g)) /\ Hid (Row wr G0 3 [.int .i64 p])) (fun _ jv _ => l.length - (intOf jv).toNat)
  case atStart =>
   refine ⟨i0, i0 + 1, cs0, rfl, by go_num, by omega, by omega, hide (by rw [N0.out, List.length_take]; omega), HR1, hide hl, hide ?_, hide (fun k h1 h2 => ?_), HG1, H01⟩
   ·rw [N0.out, <- flat_take mCells_len, <- HX.out, List.take_take, Nat.min_eq_left (by omega)]
   ·rw [<- HX.out, List.getElem?_take_of_lt h2]
  case round =>
   obtain ⟨i, j, cs, rfl, rfl, hij, hjl, HIN, HR, HL, HT, HS, HG, HP⟩ := hrel
   by_cases hlt : j < l.length
   ·have t1 : decide ((j : Int) < (l.length : Int)) = true := by simpa using hlt
    obtain ⟨x, hx⟩ : ∃ x, l[j]? = some x := ⟨l[j]'hlt, List.getElem?_eq_getElem _⟩
    have hcl : cs.length = c * 3 := HL.out
    have hm : ∀ m u, m < 3 -> (mCells x)[m]? = some u -> cs[j * 3 + m]? = some u := fun m u h1 h2 => by
     rw [HS.out _ (by omega) (by omega), flatMap_get mCells 3 mCells_len l j m x hx h1]; exact h2
    have x0 := HR.out.cell (hm 0 _ (by omega) rfl); have x1 := HR.out.cell (hm 1 _ (by omega) rfl); have x2 := HR.out.cell (hm 2 _ (by omega) rfl)
    rw [Nat.add_zero] at x0
    have HXJ := hide hx
    have hj0 : (0 : Int) <= (j : Int) := by omega
    have hj1 : (j : Int) < (l.length : Int) := by omega
    clear hx hm
    go_upto_region 8 with fail
    obtain ⟨W1, hW1⟩ : ∃ W1, W1 = (wr.alloc (Obj.cells #[Value.int .i64 x.item, Value.int .i64 x.period, Value.int .i64 x.qty] 43)) := ⟨_, rfl⟩
    have lw : Later wr W1 := by rw [hW1]; exact (Later.refl _).alloc _
    have rv : Row W1 wr.heap.size 43 [.int .i64 x.item, .int .i64 x.period, .int .i64 x.qty] := by rw [hW1]; exact Row.new _ _ _
    rw [<- hW1]
    have HRW := hide (HR.out.later lw); have HPW := hide (HP.out.later lw); have HLW := hide lw; have HV := hide rv
    have HGV := hide HR.out.lt
    clear hW1 x0 x1 x2 lw
    have v0 := rv.cell (i := 0) rfl; have v1 := rv.cell (i := 1) rfl; have v2 := rv.cell (i := 2) rfl
    clear rv
    obtain ⟨u, hu⟩ : ∃ u, decide (x.period = p) = u := ⟨_, rfl⟩
    have HU := hide hu
    have hk0 := HPW.out.cell (i := 0) rfl
    have hsn := notP_snoc p l j x HXJ.out
    cases u with
    | true =>
      rw [if_pos (by simpa using hu)] at hsn
      have HSN := hide hsn
      clear hsn hu
      go_wp2_with (go_at_call 111; (with_reducible refine (old1_calls _ x G0 p hk0).mono ?_); rintro e w2 ⟨rfl, b2⟩; rw [HU.out]; clear v0 v1 v2 hk0)
      exact ⟨⟨i, j + 1, cs, rfl, by go_num, by omega, by omega, hide (by rw [HSN.out]; exact HIN.out), hide (HRW.out.later b2), HL, hide (by rw [HSN.out]; exact HT.out), hide (fun k h1 h2 => HS.out k (by omega) h2), hide (HG.out.trans ⟨(HLW.out.trans b2).os, (HLW.out.trans b2).tape, (HLW.out.trans b2).output, (HLW.out.trans b2).size, fun b hb _ => (HLW.out.trans b2).block b hb⟩), hide (HPW.out.later b2)⟩, by simp [intOf]; omega⟩
    | false =>
      rw [if_neg (by simpa using hu)] at hsn
      have HSN := hide hsn
      have hi0' : (0 : Int) <= (i : Int) := by omega
      have hi1' : (i : Int) < (l.length : Int) := by omega
      clear hsn hu
      go_upto_region 9 with (go_at_call 111; (with_reducible refine (old1_calls _ x G0 p hk0).mono ?_); rintro e w2 ⟨rfl, b2⟩; rw [HU.out]; clear v0 v1 v2 hk0)
      have rv := HV.out.later b2
      have v0 := rv.cell (i := 0) rfl; have v1 := rv.cell (i := 1) rfl; have v2 := rv.cell (i := 2) rfl
      have rg := HRW.out.later b2
      have c0 : w2.cell? ⟨g, i * 3, none⟩ = some (cs[i * 3]'(by omega)) := rg.cell (List.getElem?_eq_getElem _)
      have c1 : w2.cell? ⟨g, i * 3 + 1, none⟩ = some (cs[i * 3 + 1]'(by omega)) := rg.cell (List.getElem?_eq_getElem _)
      have c2' : w2.cell? ⟨g, i * 3 + 2, none⟩ = some (cs[i * 3 + 2]'(by omega)) := rg.cell (List.getElem?_eq_getElem _)
      have z0 := rg.frozen (i * 3); have z1 := rg.frozen (i * 3 + 1); have z2 := rg.frozen (i * 3 + 2)
      clear rv rg
      go_wp2_with fail
      have rg := HRW.out.later b2
      have on : Only g w2 (((w2.setCell ⟨g, i * 3, none⟩ (.int .i64 x.item)).setCell ⟨g, i * 3 + 1, none⟩ (.int .i64 x.period)).setCell ⟨g, i * 3 + 2, none⟩ (.int .i64 x.qty)) := (((Only.refl g w2).set _ _).set _ _).set _ _
      refine ⟨⟨i + 1, j + 1, _, by go_num, by go_num, by omega, by omega, hide (by rw [HSN.out, List.length_append, <- HIN.out]; rfl), hide (((rg.set_ _ _).set_ _ _).set_ _ _), hide (by simp; exact HL.out), hide ?_, hide (fun k h1 h2 => ?_), hide ?_, hide ((HPW.out.later b2).only on (Ne.symm hg0))⟩, by simp [intOf]; omega⟩
      ·rw [show (i + 1) * 3 = i * 3 + 3 by omega, set3_take (by omega), HT.out, HSN.out, List.flatMap_append]; rfl
      ·rw [set3_far (by omega)]; exact HS.out k (by omega) h2
      ·exact (HG.out.trans ⟨(HLW.out.trans b2).os, (HLW.out.trans b2).tape, (HLW.out.trans b2).output, (HLW.out.trans b2).size, fun b hb _ => (HLW.out.trans b2).block b hb⟩).trans on.grownBy2
   ·have hje : j = l.length := by omega
    subst hje
    have t1 : decide ((l.length : Int) < (l.length : Int)) = false := by simp
    have hcl : cs.length = c * 3 := HL.out
    have hclr := fun ty => run_clear_row (P := Tryz.prog) (w := wr) 25 43 ty _ Tryz.underlying25 zero_mk (by intro v hv; simp [Value.cells] at hv; subst hv; rfl) (by simp [Value.cells]) (g := g) (o := i * 3) (n := l.length - i) (c := c - i) HR.out (by omega) (by simp [Value.cells]; omega)
    have hic : ¬ c = i := by omega
    have hi2 : (i : Int) <= (l.length : Int) := by omega
    have hi3 : i <= c := by omega
    go_wp2_with fail
    go_ret
    have hm : (notP p (l.take l.length)) = notP p l := by rw [List.take_length]
    have hin := HIN.out
    rw [hm] at hin
    refine ⟨by rw [<- hin]; rfl, ?_, ?_⟩
    ·rw [<- hin]
     refine own_mk (row_setRow HR.out) hb (by omega) hcm (by rw [spl_len (by simp [Builtin.zeroCells, Value.cells]; omega)]; exact hcl) ?_
     rw [spl_take (Nat.le_refl _) (by omega), HT.out, hm]
    ·exact HG.out.trans (only_setRow _ _ _).grownBy2
end Go.Proofs.YtncbebfhakcgdaaGreat
namespace Go.Proofs.YtncbebfhakcgdaaGreat
open Go.RowKit Go.Shelf
attribute [local go_sem ↓] Go.wp_at_zero Go.wp_at_succ
def OldP (w : World) (A1 A2 A3 : Option Addr) (n1 n2 n3 c1 c2 c3 : Nat) (D : PBook) (p : Int) (e : Ending) (w' : World) : Prop := ∃ A n c, e = .returned (.agg #[.slice A1 n1 c1, .int .i64 D.hor, .int .i64 D.now, .slice A2 n2 c2, .slice A3 n3 c3, .slice A n c]) /\ BookIn w' (.slice A1 n1 c1) (.slice A2 n2 c2) (.slice A3 n3 c3) (.slice A n c) { D with mks := notP p D.mks } /\ Later w w'
set_option maxHeartbeats 2000000 in
theorem old_calls (w : World) (w0 : World) (G : Nat) (A1 A2 A3 A4 : Option Addr) (n1 n2 n3 n4 c1 c2 c3 c4 : Nat) (D : PBook) (hK : KIn w0 w G A1 A2 A3 A4 n1 n2 n3 n4 c1 c2 c3 c4 D) (hl : D.mks.length <= 1000) (p : Int) (hf : BookFit { D with mks := notP p D.mks }) :
 Calls Tryz.prog 82 #[.pointer (some ⟨G, 0, none⟩), .int .i64 p] w (OldP w A1 A2 A3 n1 n2 n3 c1 c2 c3 D p) := by
 have HK := hide hK; have HF := hide hf
 clear hK hf
 obtain ⟨W0, hW0⟩ : ∃ W0, W0 = ((w.alloc (Obj.cells #[Value.int .i64 p] 3)).alloc (Obj.cells #[Value.slice none 0 0, Value.int .i64 0, Value.int .i64 0, Value.slice none 0 0, Value.slice none 0 0, Value.slice none 0 0] 27)) := ⟨_, rfl⟩
 obtain ⟨hb0, r0, r1, hsz0⟩ := boxes2 w [.int .i64 p] [.slice none 0 0, .int .i64 0, .int .i64 0, .slice none 0 0, .slice none 0 0, .slice none 0 0] 3 27 hW0
 have B0 := hide hb0; have HW0 := hide hW0; have HSZ0 := hide hsz0
 have R0 := hide r0; have R1 := hide r1
 clear hb0 hW0 hsz0 r0 r1
 go_enter Tryz.func82, Tryz.ntmps82
 go_upto_region 1 with fail
 rw [<- HW0.out]
 have hk := HK.out.later B0.out
 have k0 := hk.row.cell (i := 0) rfl; have k1 := hk.row.cell (i := 1) rfl; have k2 := hk.row.cell (i := 2) rfl; have k3 := hk.row.cell (i := 3) rfl; have k4 := hk.row.cell (i := 4) rfl; have k5 := hk.row.cell (i := 5) rfl
 go_upto_region 2 with fail
 obtain ⟨W1, hW1⟩ : ∃ W1, W1 = (W0.alloc (Obj.cells #[Value.slice A1 n1 c1, Value.int .i64 D.hor, Value.int .i64 D.now, Value.slice A2 n2 c2, Value.slice A3 n3 c3, Value.slice A4 n4 c4] 27)) := ⟨_, rfl⟩
 have l1 : Later W0 W1 := by rw [hW1]; exact (Later.refl _).alloc _
 have r1 : Row W1 W0.heap.size 27 [.slice A1 n1 c1, .int .i64 D.hor, .int .i64 D.now, .slice A2 n2 c2, .slice A3 n3 c3, .slice A4 n4 c4] := by rw [hW1]; exact Row.new _ _ _
 rw [<- hW1]
 have HL1 := hide l1; have HR1 := hide r1
 have K1 := hide (hk.later l1)
 have HRP := hide (R0.out.later l1)
 clear hW1 k0 k1 k2 k3 k4 k5 hk
 have k5 := r1.cell (i := 5) rfl
 clear r1 l1
 have hmf := mkF
 have HZ0 := hide HSZ0.out
 go_upto_region 3 with (first | (go_at_call 72; (with_reducible refine (cloneM_calls _ _ D.mks (Sq.of_own mCells_len K1.out.own.mks) hl).mono ?_); rintro e w2 ⟨v2, rfl, o2, b2⟩; obtain ⟨A5, c5, rfl⟩ := own_form o2) | (go_at_call 110; (with_reducible refine (delM_calls _ W1.heap.size A5 D.mks.length c5 D.mks rfl o2 hl w.heap.size p (HRP.out.later b2) (fun k hk => by have h1 := (World.ownsRow.lt o2 k hk).1; have h2 := HRP.out.lt; omega)).mono ?_); rintro e w3 ⟨rfl, o3, g3⟩; have hb3 : Below W1.heap.size w2 w3 := Below.grown (Below.refl _ _) g3 b2.size (fun k hk => by have := (World.ownsRow.lt o2 k hk).1; omega); have l3 : Later W1 w3 := Below.trans b2 hb3; have rb := HR1.out.later l3; have b5 := rb.cell (i := 5) rfl; have bz5 := rb.frozen 5; clear rb))
 obtain ⟨W4, hW4⟩ : ∃ W4, W4 = (w3.setCell ⟨W0.heap.size, 5, none⟩ (.slice A5 (notP p D.mks).length c5)) := ⟨_, rfl⟩
 have l4 : Later W0 W4 := by rw [hW4]; exact (HL1.out.trans l3).setCell (Nat.le_refl _) _
 have r4 : Row W4 W0.heap.size 27 [.slice A1 n1 c1, .int .i64 D.hor, .int .i64 D.now, .slice A2 n2 c2, .slice A3 n3 c3, .slice A5 (notP p D.mks).length c5] := by rw [hW4]; exact (HR1.out.later l3).set_ 5 _
 have o4 : W4.ownsRow W1.heap.size 43 3 (.slice A5 (notP p D.mks).length c5) (notP p D.mks).length ((notP p D.mks).flatMap mCells) := by rw [hW4]; exact ownsRow_setCell_below o3 (by show W0.heap.size < _; have := HR1.out.lt; omega) _
 have rz : Row W4 (w.heap.size + 1) 27 [.slice none 0 0, .int .i64 0, .int .i64 0, .slice none 0 0, .slice none 0 0, .slice none 0 0] := R1.out.later l4
 rw [<- hW4]
 have HO4 := hide o4; have HL4 := hide (B0.out.trans l4); have HRZ := hide rz
 clear hW4 l4 l3 b2 o2 o3 g3 hb3 b5 bz5 k5 o4
 have q0 := r4.cell (i := 0) rfl; have q1 := r4.cell (i := 1) rfl; have q2 := r4.cell (i := 2) rfl; have q3 := r4.cell (i := 3) rfl; have q4 := r4.cell (i := 4) rfl; have q5 := r4.cell (i := 5) rfl
 have y0 := rz.cell (i := 0) rfl; have yz0 := rz.frozen 0; have y1 := rz.cell (i := 1) rfl; have yz1 := rz.frozen 1; have y2 := rz.cell (i := 2) rfl; have yz2 := rz.frozen 2; have y3 := rz.cell (i := 3) rfl; have yz3 := rz.frozen 3; have y4 := rz.cell (i := 4) rfl; have yz4 := rz.frozen 4; have y5 := rz.cell (i := 5) rfl; have yz5 := rz.frozen 5
 clear rz r4
 go_wp2_with fail
 refine bodyPost_ret (results_bk rfl rfl (HRZ.out.put6 _ _ _ _ _ _)) rfl ?_
 have on := only6 (W := W4) (w.heap.size + 1) (.slice A1 n1 c1) (.int .i64 D.hor) (.int .i64 D.now) (.slice A2 n2 c2) (.slice A3 n3 c3) (.slice A5 (notP p D.mks).length c5)
 have lf := HL4.out.only on (by omega)
 have f := HF.out
 have hh := HK.out.own.later lf
 obtain ⟨es, h1, h2⟩ := hh.its
 exact ⟨_, _, _, rfl, ⟨Its.of_own h2 (h1.later hh.lt), Sq.of_own iCells_ln hh.caps, Sq.of_own oCells_len hh.ords, Sq.of_own mCells_len (own_only HO4.out on (fun k hk => by have h3 := (World.ownsRow.lt HO4.out k hk).1; have h4 := HR1.out.lt; have h5 := HZ0.out; omega)), f.il, f.cl, f.ol, f.ml, f.hfit, f.nfit, f.cfit, f.ofit, f.mfit⟩, lf⟩
end Go.Proofs.YtncbebfhakcgdaaGreat
namespace Go.Proofs.YtncbebfhakcgdaaGreat
open Go.Shelf
def laySort_ren : Go.Shelf.Ren := ⟨fun | 6 => 83 | 15 => 113 | 14 => 112 | 28 => 135 | 29 => 136 | 20 => 127 | 21 => 128 | 22 => 129 | 23 => 130 | 24 => 131 | 25 => 132 | 26 => 133 | 27 => 134 | 46 => 151 | 47 => 152 | 48 => 153 | 49 => 154 | 50 => 155 | 57 => 171 | n => n, fun | 22 => 25 | 24 => 43 | 25 => 108 | 3 => 3 | 39 => 139 | 0 => 0 | 53 => 160 | 55 => 162 | 4 => 4 | 46 => 154 | 45 => 153 | 50 => 40 | 5 => 5 | 9 => 9 | 66 => 173 | 70 => 177 | 76 => 186 | 77 => 187 | n => n, fun | n => n⟩
theorem laySort : Go.Proofs.SlLaysF0.n6 Tryz.prog laySort_ren := {
 mixed := by kernel_rfl
 f6 := ⟨Tryz.f83.name, by decide, Tryz.func83.trans (congrArg some (by kernel_rfl))⟩
 f14 := ⟨Tryz.f112.name, by decide, Tryz.func112.trans (congrArg some (by kernel_rfl))⟩
 f15 := Tryz.func113.trans (congrArg some (by kernel_rfl))
 f20 := ⟨Tryz.f127.name, by decide, Tryz.func127.trans (congrArg some (by kernel_rfl))⟩
 f21 := ⟨Tryz.f128.name, by decide, Tryz.func128.trans (congrArg some (by kernel_rfl))⟩
 f22 := ⟨Tryz.f129.name, by decide, Tryz.func129.trans (congrArg some (by kernel_rfl))⟩
 f23 := ⟨Tryz.f130.name, by decide, Tryz.func130.trans (congrArg some (by kernel_rfl))⟩
 f24 := ⟨Tryz.f131.name, by decide, Tryz.func131.trans (congrArg some (by kernel_rfl))⟩
 f25 := ⟨Tryz.f132.name, by decide, Tryz.func132.trans (congrArg some (by kernel_rfl))⟩
 f26 := ⟨Tryz.f133.name, by decide, Tryz.func133.trans (congrArg some (by kernel_rfl))⟩
 f27 := ⟨Tryz.f134.name, by decide, Tryz.func134.trans (congrArg some (by kernel_rfl))⟩
 f28 := Tryz.func135.trans (congrArg some (by kernel_rfl))
 f29 := Tryz.func136.trans (congrArg some (by kernel_rfl))
 f46 := ⟨Tryz.f151.name, by decide, Tryz.func151.trans (congrArg some (by kernel_rfl))⟩
 f47 := Tryz.func152.trans (congrArg some (by kernel_rfl))
 f48 := Tryz.func153.trans (congrArg some (by kernel_rfl))
 f49 := ⟨Tryz.f154.name, by decide, Tryz.func154.trans (congrArg some (by kernel_rfl))⟩
 f50 := ⟨Tryz.f155.name, by decide, Tryz.func155.trans (congrArg some (by kernel_rfl))⟩
 f57 := ⟨Tryz.f171.name, by decide, Tryz.func171.trans (congrArg some (by kernel_rfl))⟩
 t0 := Tryz.underlying0
 a0 := Tryz.isAgg0
 z0 := Tryz.sizeOf0
 v0 := Tryz.zeroValue0
 t3 := Tryz.underlying3
 a3 := Tryz.isAgg3
 z3 := Tryz.sizeOf3
 v3 := Tryz.zeroValue3
 t4 := Tryz.underlying4
 a4 := Tryz.isAgg4
 z4 := Tryz.sizeOf4
 v4 := Tryz.zeroValue4
 t5 := Tryz.underlying5
 a5 := Tryz.isAgg5
 z5 := Tryz.sizeOf5
 v5 := Tryz.zeroValue5
 t9 := Tryz.underlying9
 a9 := Tryz.isAgg9
 z9 := Tryz.sizeOf9
 v9 := Tryz.zeroValue9
 t22 := Tryz.underlying25
 a22 := Tryz.isAgg25
 z22 := Tryz.sizeOf25
 v22 := Tryz.zeroValue25
 t25 := Tryz.underlying108
 a25 := Tryz.isAgg108
 z25 := Tryz.sizeOf108
 v25 := Tryz.zeroValue108
 t39 := Tryz.underlying139
 a39 := Tryz.isAgg139
 z39 := Tryz.sizeOf139
 v39 := Tryz.zeroValue139
 t45 := Tryz.underlying153
 a45 := Tryz.isAgg153
 z45 := Tryz.sizeOf153
 v45 := Tryz.zeroValue153
 t46 := Tryz.underlying154
 a46 := Tryz.isAgg154
 z46 := Tryz.sizeOf154
 v46 := Tryz.zeroValue154
 t50 := Tryz.underlying40
 a50 := Tryz.isAgg40
 z50 := Tryz.sizeOf40
 v50 := Tryz.zeroValue40
 t53 := Tryz.underlying160
 a53 := Tryz.isAgg160
 z53 := Tryz.sizeOf160
 v53 := Tryz.zeroValue160
 t55 := Tryz.underlying162
 a55 := Tryz.isAgg162
 z55 := Tryz.sizeOf162
 v55 := Tryz.zeroValue162
 t66 := Tryz.underlying173
 a66 := Tryz.isAgg173
 z66 := Tryz.sizeOf173
 v66 := Tryz.zeroValue173
 t70 := Tryz.underlying177
 a70 := Tryz.isAgg177
 z70 := Tryz.sizeOf177
 v70 := Tryz.zeroValue177
 t76 := Tryz.underlying186
 a76 := Tryz.isAgg186
 z76 := Tryz.sizeOf186
 v76 := Tryz.zeroValue186
 t77 := Tryz.underlying187
 a77 := Tryz.isAgg187
 z77 := Tryz.sizeOf187
 v77 := Tryz.zeroValue187 }
end Go.Proofs.YtncbebfhakcgdaaGreat
namespace Go.Proofs.YtncbebfhakcgdaaGreat
open Go.RowKit Go.Shelf
attribute [local go_sem ↓] Go.wp_at_zero Go.wp_at_succ
instance instInhPMk : Inhabited PMk := ⟨⟨0, 0, 0⟩⟩
theorem cmpM_lt (x y : PMk) : ltOf cmpM x y = decide (x.period < y.period ∨ (x.period = y.period /\ x.item < y.item)) := by
 unfold ltOf cmpM cmpI
 by_cases h1 : x.period < y.period
 ·simp [h1, orI]
 ·by_cases h2 : y.period < x.period
  ·have : x.period ≠ y.period := by omega
   simp [h1, h2, orI, this]
  ·have e : x.period = y.period := by omega
   by_cases h3 : x.item < y.item
   ·simp [h1, h2, h3, e, orI]
   ·by_cases h4 : y.item < x.item <;> simp [h1, h2, h3, h4, e, orI]
theorem swoM : Go.Sort.SWO (ltOf cmpM) where
 irrefl x := by rw [cmpM_lt]; simp
 trans x y z h1 h2 := by rw [cmpM_lt] at *; simp only [decide_eq_true_iff] at *; omega
 ntrans x y z h1 h2 := by rw [cmpM_lt] at *; simp only [decide_eq_false_iff_not] at *; omega
theorem flat_flatK (d : Array PMk) : (Go.Sort.flatK mCells 3 d).toList = d.toList.flatMap mCells := by
 apply List.ext_getElem?
 intro j
 by_cases h : j < d.size * 3
 ·have hs : j < (Go.Sort.flatK mCells 3 d).size := by rw [Go.Sort.size_flatK]; exact h
  have h1 : (Go.Sort.flatK mCells 3 d).toList[j]? = some ((Go.Sort.flatK mCells 3 d)[j]!) := by
   rw [getElem!_pos _ j hs, Array.getElem?_toList, Array.getElem?_eq_getElem hs]
  have hd : j / 3 < d.size := by omega
  have h2 := flatMap_get mCells 3 mCells_len d.toList (j / 3) (j % 3) (d[j / 3]!) (by rw [getElem!_pos d _ hd, Array.getElem?_toList, Array.getElem?_eq_getElem hd]) (by omega)
  have hm : j % 3 < (mCells (d[j / 3]!)).length := by rw [mCells_len]; omega
  rw [h1, Go.Sort.get_flatK _ _ _ _ h, show j = j / 3 * 3 + j % 3 by omega, h2, show (j / 3 * 3 + j % 3) / 3 = j / 3 by omega, show (j / 3 * 3 + j % 3) % 3 = j % 3 by omega, getElem!_pos (mCells (d[j / 3]!)) _ hm, List.getElem?_eq_getElem hm]
 ·rw [List.getElem?_eq_none (by simp; omega), List.getElem?_eq_none (by rw [flat_len mCells_len]; simp; omega)]
theorem row_putRow {w : World} {g : Nat} {T : TypeId} {cs : List Value} (h : Row w g T cs) (v : Array Value) : ∃ cs', Row (Go.Sort.putRow id w g 0 v) g T cs' /\ cs'.length = cs.length := by
 refine ⟨(Go.Sort.putCells id 0 v cs.toArray).toList, ?_, by simp [Go.Sort.putCells]⟩
 unfold Row at *
 unfold Go.Sort.putRow Go.Sort.mapBlock
 simp only [Array.getElem?_modify, h]
 simp [Go.Sort.onCells]
theorem only_putRow (w : World) (g : Nat) (v : Array Value) : Only g w (Go.Sort.putRow id w g 0 v) := by
 refine ⟨rfl, rfl, rfl, by unfold Go.Sort.putRow Go.Sort.mapBlock; simp, fun b hb => ?_⟩
 unfold Go.Sort.putRow Go.Sort.mapBlock
 simp [Array.getElem?_modify]
 intro e; exact absurd e.symm hb
theorem row_grow {w : World} {g : Nat} {T : TypeId} {cs : List Value} (h : Row w g T cs) (os : Array Obj) : Row (Go.Sort.grow w os) g T cs := by
 have hl := h.lt
 unfold Row at *
 unfold Go.Sort.grow
 rw [<- h]
 simp [Array.getElem?_append, hl]
def SrtP (w : World) (lo : Nat) (A : Option Addr) (c : Nat) (l : List PMk) (e : Ending) (w' : World) : Prop := e = .returned (.tuple #[]) /\ ∃ l' : List PMk, l'.Perm l /\ l'.Pairwise (fun a b => ltOf cmpM b a = false) /\ w'.ownsRow lo 43 3 (.slice A l'.length c) l'.length (l'.flatMap mCells) /\ w.grownBy w' (Value.slice A l.length c).ownBlock
theorem sortM_calls (w : World) (lo g c : Nat) (l : List PMk) (hO : w.ownsRow lo 43 3 (.slice (some ⟨g, 0, none⟩) l.length c) l.length (l.flatMap mCells)) (hn1 : l.length <= 1000) :
 Calls Tryz.prog 83 #[.slice (some ⟨g, 0, none⟩) l.length c, .func (.func 84) #[] #[]] w (SrtP w lo (some ⟨g, 0, none⟩) c l) := by
 obtain ⟨-, -, hb, hnc, hcm, cs, hr, hl, hx⟩ := own_row hO
 have eg : ∀ args w, (callFunc 84 args).run Tryz.prog w = .ok (.enter 84 args) w := enters_of Tryz.func84 (by kernel_rfl) rfl
 have hcmp : CmpLays Tryz.prog 84 #[] mCells 3 cmpM g 0 l.toArray.size w := fun m os dk _ x y => com2_calls _ x y _ rfl
 have hH : Go.Sort.HoldsK mCells 3 w g 0 l.toArray := by
  intro j hj
  rw [Go.Sort.size_flatK] at hj
  have hj' : j < (Go.Sort.flatK mCells 3 l.toArray).toList.length := by simpa using hj
  have e : cs[0 + j]? = some ((Go.Sort.flatK mCells 3 l.toArray)[j]!) := by
   have h1 : (cs.take (l.length * 3))[j]? = (Go.Sort.flatK mCells 3 l.toArray).toList[j]? := by rw [hx, flat_flatK]
   rw [List.getElem?_take_of_lt (by simpa using hj), List.getElem?_eq_getElem hj'] at h1
   rw [Nat.zero_add, h1, getElem!_pos _ j (by simpa using hj)]; simp
  exact ⟨hr.cell e, hr.frozen _⟩
 have hcon := AnyQ.slices_SortFunc laySort 3 Tryz.isAgg43 Tryz.sizeOf43 mCells mCells_len mCells_one cmpM swoM 84 #[] g 0 c l.toArray w eg hcmp hH hr.lt (by simp; omega)
 refine Calls.mono (R := _) (show Calls Tryz.prog 83 _ _ _ from hcon) ?_
 rintro e w' ⟨he, d', n, os, hp, hs, hw⟩
 obtain ⟨p1, -, p3⟩ := hp
 have hds : d'.size = l.length := by simpa using p1
 have hperm : d'.toList.Perm l := by
  rw [<- p1] at p3
  have p4 : d'.toList.Perm (l.take d'.size) := by simpa using p3
  rwa [List.take_of_length_le (by omega)] at p4
 have hlen : d'.toList.length = l.length := by simpa using hds
 refine ⟨he, d'.toList, hperm, ?_, ?_, ?_⟩
 ·rw [List.pairwise_iff_getElem]
  intro i j hi hj hij
  have := hs i j (Nat.zero_le _) hij (by simpa [hds] using hj)
  rw [getElem!_pos _ _ (by simpa using hj), getElem!_pos _ _ (by simpa using hi)] at this
  simpa using this
 ·obtain ⟨cs', h1, h2⟩ := row_putRow (w := Go.Sort.ahead w n) (T := 43) (cs := cs) hr (Go.Sort.flatK mCells 3 d')
  have hr' : Row w' g 43 cs' := by rw [hw]; exact row_grow h1 os
  have hh : Go.Sort.HoldsK mCells 3 (Go.Sort.putRowK mCells 3 (Go.Sort.ahead w n) g 0 d') g 0 d' := Go.Sort.holdsK_putRowK mCells 3 _ g 0 l.toArray d' hH p1
  rw [hlen]
  refine own_mk hr' hb hnc hcm (by rw [h2, hl]) ?_
  rw [<- flat_flatK]
  apply List.ext_getElem?
  intro j
  rw [List.getElem?_take]
  split
  ·rename_i hj
   have hj2 : j < (Go.Sort.flatK mCells 3 d').size := by rw [Go.Sort.size_flatK, hds]; exact hj
   have h3 := (hh j hj2).1
   have h4 := h1.cell (i := j) (u := cs'[j]'(by rw [h2, hl]; have := Nat.mul_le_mul_right 3 hnc; omega)) (List.getElem?_eq_getElem _)
   rw [Nat.zero_add] at h3
   have h5 : some (cs'[j]'(by rw [h2, hl]; have := Nat.mul_le_mul_right 3 hnc; omega)) = some (id ((Go.Sort.flatK mCells 3 d')[j]!)) := h4.symm.trans h3
   rw [List.getElem?_eq_getElem (by rw [h2, hl]; have := Nat.mul_le_mul_right 3 hnc; omega), h5, getElem!_pos _ j hj2, Array.getElem?_toList, Array.getElem?_eq_getElem hj2]; rfl
  ·rename_i hj
   rw [List.getElem?_eq_none (by simp [hds]; omega)]
 ·have o := only_putRow (Go.Sort.ahead w n) g (Go.Sort.flatK mCells 3 d')
  rw [hw]
  refine ⟨o.os, o.tape, o.output, ?_, fun b hb2 hne => ?_⟩
  ·have h1 : (Go.Sort.putRowK mCells 3 (Go.Sort.ahead w n) g 0 d').heap.size = w.heap.size := o.size
   show w.heap.size <= ((Go.Sort.putRowK mCells 3 (Go.Sort.ahead w n) g 0 d').heap ++ os).size
   rw [Array.size_append, h1]; omega
  ·have h1 : (Go.Sort.putRowK mCells 3 (Go.Sort.ahead w n) g 0 d').heap.size = w.heap.size := o.size
   show ((Go.Sort.putRowK mCells 3 (Go.Sort.ahead w n) g 0 d').heap ++ os)[b]? = _
   rw [Array.getElem?_append, if_pos (by rw [h1]; exact hb2)]
   exact o.block b (fun e => hne (by rw [e]; rfl))
end Go.Proofs.YtncbebfhakcgdaaGreat
