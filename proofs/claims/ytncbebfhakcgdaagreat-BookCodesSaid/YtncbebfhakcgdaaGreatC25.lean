/- Books: operations that tell a book. -/
import Derived.Test.YtncbebfhakcgdaaGreatC24
import Derived.Test.YtncbebfhakcgdaaGreatC19
set_option linter.unusedVariables false
set_option linter.unusedSimpArgs false
set_option maxRecDepth 100000
namespace Go.Proofs.YtncbebfhakcgdaaGreat
open Go.RowKit Go.Shelf
attribute [local go_sem ↓] Go.wp_at_zero Go.wp_at_succ
theorem tellCaps_snoc : ∀ (l : List Int) (i : Nat) (c : Int), tellCaps (l ++ [c]) i = tellCaps l i ++ [mkCap ((i + l.length : Nat) : Int) c]
 | [], i, c => by simp [tellCaps]
 | x :: l, i, c => by
   rw [List.cons_append]
   unfold tellCaps
   rw [tellCaps_snoc l (i+1) c, List.length_cons, show i + 1 + l.length = i + (l.length + 1) by omega]; rfl
theorem tellT_succ (D : PBook) (n : Nat) : tellT D (n + 1) = tellT D n ++ tellP D n := by
 unfold tellT
 rw [List.range_succ, List.flatMap_append]; simp
def TellP (w : World) (l : List POp) (e : Ending) (w' : World) : Prop := ∃ A n c, e = .returned (.slice A n c) /\ OutOps w.heap.size w' (.slice A n c) l /\ Later w w'
set_option maxHeartbeats 4000000 in
theorem tell_calls (w : World) (A1 A2 A3 A4 : Option Addr) (n1 n2 n3 n4 c1 c2 c3 c4 : Nat) (D : PBook) (h : BookIn w (.slice A1 n1 c1) (.slice A2 n2 c2) (.slice A3 n3 c3) (.slice A4 n4 c4) D) :
 Calls Tryz.prog 54 #[.agg #[.slice A1 n1 c1, .int .i64 D.hor, .int .i64 D.now, .slice A2 n2 c2, .slice A3 n3 c3, .slice A4 n4 c4]] w (TellP w (tellV D)) := by
 have H := hide h
 have hn2 : n2 = D.caps.length := by
  obtain ⟨_, _, _, e, e2, -⟩ := h.caps.form
  injection e with _ e3 _; omega
 have hn3 : n3 = D.ords.length := by
  obtain ⟨_, _, _, e, e2, -⟩ := h.ords.form
  injection e with _ e3 _; omega
 have HN2 := hide hn2; have HN3 := hide hn3
 have h29 : n2 <= 1000 := by have := h.cl; omega
 have h39 : n3 <= 1000 := by have := h.ol; omega
 clear h hn2 hn3
 obtain ⟨W0, hW0⟩ : ∃ W0, W0 = (w.alloc (Obj.cells #[Value.slice A1 n1 c1, Value.int .i64 D.hor, Value.int .i64 D.now, Value.slice A2 n2 c2, Value.slice A3 n3 c3, Value.slice A4 n4 c4] 27)) := ⟨_, rfl⟩
 obtain ⟨hb0, r0, hsz0⟩ := boxes1 w [.slice A1 n1 c1, .int .i64 D.hor, .int .i64 D.now, .slice A2 n2 c2, .slice A3 n3 c3, .slice A4 n4 c4] 27 hW0
 have B0 := hide hb0; have HW0 := hide hW0; have HSZ0 := hide hsz0
 have R0 := hide r0
 clear hb0 hW0 hsz0 r0
 go_enter Tryz.func54, Tryz.ntmps54
 go_upto_region 1 with fail
 rw [<- HW0.out]
 have r_d := R0.out.later (Later.refl W0)
 have d0 := r_d.cell (i := 0) rfl; have d1 := r_d.cell (i := 1) rfl; have d2 := r_d.cell (i := 2) rfl; have d3 := r_d.cell (i := 3) rfl; have d4 := r_d.cell (i := 4) rfl; have d5 := r_d.cell (i := 5) rfl
 clear r_d
 go_wp2_with fail
 clear d0 d1 d2 d3 d4 d5
 go_loopw [3, 13] (fun ov i wr => ∃ (j : Nat) (A5 : Option Addr) (n5 c5 : Nat), ov = .slice A5 n5 c5 /\ i = .int .i64 (j : Int) /\ j <= n2 /\ Hid (OutOps W0.heap.size wr (.slice A5 n5 c5) (tellCaps (D.caps.take j) 0)) /\ Hid (Later W0 wr)) (fun _ i _ => (n2 - intOf i).toNat)
 case atStart => exact ⟨0, none, 0, 0, rfl, rfl, Nat.zero_le _, hide (OutOps.nil _ _), hide (Later.refl _)⟩
 case round =>
  obtain ⟨j, A5, n5, c5, rfl, rfl, hj, HO, HLW⟩ := hrel
  by_cases hjn : j < n2
  ·obtain ⟨x, hx⟩ : ∃ x, D.caps[j]? = some x := ⟨D.caps[j]'(by have := HN2.out; omega), List.getElem?_eq_getElem _⟩
   obtain ⟨b1, off1, rfl, x1⟩ := (H.out.later (B0.out.trans HLW.out)).caps.at1 hx
   have HX := hide hx
   have hj0 : (0 : Int) <= (j : Int) := by omega
   have hj1 : (j : Int) < n2 := by omega
   have HTK : Hid (tellCaps (D.caps.take (j+1)) 0 = tellCaps (D.caps.take j) 0 ++ [mkCap (j : Int) x]) := hide (by rw [List.take_add_one, hx]; have := tellCaps_snoc (D.caps.take j) 0 x; rw [List.length_take, Nat.min_eq_left (by have := HN2.out; omega), Nat.zero_add] at this; exact this)
   clear hx
   obtain ⟨es, hel, hq, hown⟩ := HO.out
   obtain ⟨L, hL⟩ : ∃ L, L = tellCaps (D.caps.take j) 0 := ⟨_, rfl⟩
   have HL := hide hL
   rw [<- hL] at hel hq hown
   have hn5 : n5 = L.length := (own_len3 hown).1
   subst hn5
   have HEL := hide hel; have HQO := hide hq; have HOWN := hide hown
   clear hel hq hown hL HO
   have HLN4 : Hid (L.length <= 1000) := hide (by rw [HL.out, tellCaps_len, List.length_take]; omega)
   have HLW4 := HLW
   have r_d := R0.out.later HLW.out
   have d0 := r_d.cell (i := 0) rfl; have d1 := r_d.cell (i := 1) rfl; have d2 := r_d.cell (i := 2) rfl; have d3 := r_d.cell (i := 3) rfl; have d4 := r_d.cell (i := 4) rfl; have d5 := r_d.cell (i := 5) rfl
   clear r_d
   have HOW4 : Hid ((wr.alloc (Obj.cells #[Value.int .i64 3, Value.int .i64 0, Value.int .i64 0, Value.int .i64 0, Value.int .i64 0, Value.int .i64 0, Value.int .i64 (j : Int), Value.int .i64 x, Value.slice none 0 0] 31)).ownsRow W0.heap.size 31 9 (.slice A5 L.length c5) L.length ((es.zip L).flatMap opCells)) := hide (World.ownsRow.alloc (own_later HOWN.out (Later.refl _)) _)
   have HSR4 : Hid (Src (wr.alloc (Obj.cells #[Value.int .i64 3, Value.int .i64 0, Value.int .i64 0, Value.int .i64 0, Value.int .i64 0, Value.int .i64 0, Value.int .i64 (j : Int), Value.int .i64 x, Value.slice none 0 0] 31)) 9 (.slice (some ⟨wr.heap.size, 0, none⟩) 1 1) 1 [.int .i64 3, .int .i64 0, .int .i64 0, .int .i64 0, .int .i64 0, .int .i64 0, .int .i64 (j : Int), .int .i64 x, .slice none 0 0]) := hide ⟨rfl, (by intro u hu; simp at hu; rcases hu with rfl | rfl | rfl | rfl | rfl | rfl | rfl | rfl | rfl <;> rfl), .inr ⟨_, _, rfl, fun jj u hj => by rw [addr_add, Nat.zero_add]; exact (Row.new wr 31 [.int .i64 3, .int .i64 0, .int .i64 0, .int .i64 0, .int .i64 0, .int .i64 0, .int .i64 (j : Int), .int .i64 x, .slice none 0 0]).cell hj⟩⟩
   have HBS4 : Hid (W0.heap.size <= (wr.alloc (Obj.cells #[Value.int .i64 3, Value.int .i64 0, Value.int .i64 0, Value.int .i64 0, Value.int .i64 0, Value.int .i64 0, Value.int .i64 (j : Int), Value.int .i64 x, Value.slice none 0 0] 31)).heap.size) := hide ((HLW4.out.alloc _).size)
   go_wp2_with (at_builtin; (refine wpList_append_src rfl (.tmp 18) (.tmp 22) 52 rfl W0.heap.size 31 (.agg #[.int .i64 0, .int .i64 0, .int .i64 0, .int .i64 0, .int .i64 0, .int .i64 0, .int .i64 0, .int .i64 0, .slice none 0 0]) 9 88 Tryz.underlying52 info_op rfl (by omega) (by omega) _ L.length _ rfl HOW4.out _ 1 [.int .i64 3, .int .i64 0, .int .i64 0, .int .i64 0, .int .i64 0, .int .i64 0, .int .i64 (j : Int), .int .i64 x, .slice none 0 0] rfl HSR4.out (by have := HLN4.out; omega) HBS4.out ?_); intro v' y4 hown hg hblk; obtain ⟨A4', c4', rfl⟩ := own_form hown; have HO4' := hide hown; have HG4' := hide hg; clear hown hg hblk; have HL4' : Hid (Later W0 y4) := hide ((HLW4.out.alloc _).grown HG4'.out (fun k hk => (World.ownsRow.lt HOW4.out k hk).1)))
   refine ⟨⟨j+1, _, _, _, rfl, by go_num, by omega, hide ?_, HL4'⟩, by simp [intOf]; omega⟩
   rw [HTK.out, <- HL.out]
   exact OutOps.snoc HEL.out (fun i e o a b => World.ownsRow.alloc (own_later (HQO.out i e o a b) (Later.refl _)) _) HOW4.out HG4'.out ⟨none, 0, 0⟩ (mkCap (j : Int) x) (World.ownsRow_nil _ _ _ _) HO4'.out
  ·obtain rfl : n2 = j := by omega
   have HA : Hid (D.caps.take n2 = D.caps) := hide (List.take_of_length_le (by have := HN2.out; omega))
   rw [HA.out] at HO
   have HO1 := HO; have HL1 := HLW
   have r_d := R0.out.later HLW.out
   have d0 := r_d.cell (i := 0) rfl; have d1 := r_d.cell (i := 1) rfl; have d2 := r_d.cell (i := 2) rfl; have d3 := r_d.cell (i := 3) rfl; have d4 := r_d.cell (i := 4) rfl; have d5 := r_d.cell (i := 5) rfl
   clear r_d
   go_wp2_with fail
   clear d0 d1 d2 d3 d4 d5
   go_loopw [3, 28] (fun ov i wr => ∃ (j : Nat) (A5 : Option Addr) (n5 c5 : Nat), ov = .slice A5 n5 c5 /\ i = .int .i64 (j : Int) /\ j <= n3 /\ Hid (OutOps W0.heap.size wr (.slice A5 n5 c5) (tellCaps D.caps 0 ++ (D.ords.take j).map mkOrd)) /\ Hid (Later W0 wr)) (fun _ i _ => (n3 - intOf i).toNat)
   case atStart => exact ⟨0, _, _, _, rfl, rfl, Nat.zero_le _, hide (by simpa using HO1.out), HL1⟩
   case round =>
    obtain ⟨j, A5, n5, c5, rfl, rfl, hj, HO, HLW⟩ := hrel
    by_cases hjn : j < n3
    ·obtain ⟨x, hx⟩ : ∃ x, D.ords[j]? = some x := ⟨D.ords[j]'(by have := HN3.out; omega), List.getElem?_eq_getElem _⟩
     obtain ⟨b1, off1, rfl, x1, x2, x3, x4⟩ := (H.out.later (B0.out.trans HLW.out)).ords.at4 hx
     have HX := hide hx
     have hj0 : (0 : Int) <= (j : Int) := by omega
     have hj1 : (j : Int) < n3 := by omega
     have HTK : Hid ((D.ords.take (j+1)).map mkOrd = (D.ords.take j).map mkOrd ++ [mkOrd x]) := hide (by rw [List.take_add_one, hx, List.map_append]; rfl)
     clear hx
     obtain ⟨es, hel, hq, hown⟩ := HO.out
     obtain ⟨L, hL⟩ : ∃ L, L = tellCaps D.caps 0 ++ (D.ords.take j).map mkOrd := ⟨_, rfl⟩
     have HL := hide hL
     rw [<- hL] at hel hq hown
     have hn5 : n5 = L.length := (own_len3 hown).1
     subst hn5
     have HEL := hide hel; have HQO := hide hq; have HOWN := hide hown
     clear hel hq hown hL HO
     have HLN4 : Hid (L.length <= 2010) := hide (by rw [HL.out, List.length_append, tellCaps_len, List.length_map, List.length_take]; have := H.out.cl; omega)
     have r_d := R0.out.later HLW.out
     have d0 := r_d.cell (i := 0) rfl; have d1 := r_d.cell (i := 1) rfl; have d2 := r_d.cell (i := 2) rfl; have d3 := r_d.cell (i := 3) rfl; have d4 := r_d.cell (i := 4) rfl; have d5 := r_d.cell (i := 5) rfl
     clear r_d
     go_upto_region 10 with fail
     obtain ⟨W3, hW3⟩ : ∃ W3, W3 = wr.alloc (Obj.cells #[Value.int .i64 x.id, Value.int .i64 x.item, Value.int .i64 x.due, Value.int .i64 x.qty] 29) := ⟨_, rfl⟩
     have hb3 : Later wr W3 := by rw [hW3]; exact (Later.refl _).alloc _
     have hr3 : Row W3 wr.heap.size 29 [.int .i64 x.id, .int .i64 x.item, .int .i64 x.due, .int .i64 x.qty] := by rw [hW3]; exact Row.new _ _ _
     rw [<- hW3]
     have HB3 := hide hb3
     have HLW4 := hide (HLW.out.trans hb3)
     clear hW3 d0 d1 d2 d3 d4 d5 x1 x2 x3 x4 hb3
     have x0 := hr3.cell (i := 0) rfl; have x1 := hr3.cell (i := 1) rfl; have x2 := hr3.cell (i := 2) rfl; have x3 := hr3.cell (i := 3) rfl
     clear hr3
     have HOW4 : Hid ((W3.alloc (Obj.cells #[Value.int .i64 1, Value.int .i64 x.id, Value.int .i64 x.item, Value.int .i64 x.due, Value.int .i64 x.qty, Value.int .i64 0, Value.int .i64 0, Value.int .i64 0, Value.slice none 0 0] 31)).ownsRow W0.heap.size 31 9 (.slice A5 L.length c5) L.length ((es.zip L).flatMap opCells)) := hide (World.ownsRow.alloc (own_later HOWN.out HB3.out) _)
     have HSR4 : Hid (Src (W3.alloc (Obj.cells #[Value.int .i64 1, Value.int .i64 x.id, Value.int .i64 x.item, Value.int .i64 x.due, Value.int .i64 x.qty, Value.int .i64 0, Value.int .i64 0, Value.int .i64 0, Value.slice none 0 0] 31)) 9 (.slice (some ⟨W3.heap.size, 0, none⟩) 1 1) 1 [.int .i64 1, .int .i64 x.id, .int .i64 x.item, .int .i64 x.due, .int .i64 x.qty, .int .i64 0, .int .i64 0, .int .i64 0, .slice none 0 0]) := hide ⟨rfl, (by intro u hu; simp at hu; rcases hu with rfl | rfl | rfl | rfl | rfl | rfl | rfl | rfl | rfl <;> rfl), .inr ⟨_, _, rfl, fun jj u hj => by rw [addr_add, Nat.zero_add]; exact (Row.new W3 31 [.int .i64 1, .int .i64 x.id, .int .i64 x.item, .int .i64 x.due, .int .i64 x.qty, .int .i64 0, .int .i64 0, .int .i64 0, .slice none 0 0]).cell hj⟩⟩
     have HBS4 : Hid (W0.heap.size <= (W3.alloc (Obj.cells #[Value.int .i64 1, Value.int .i64 x.id, Value.int .i64 x.item, Value.int .i64 x.due, Value.int .i64 x.qty, Value.int .i64 0, Value.int .i64 0, Value.int .i64 0, Value.slice none 0 0] 31)).heap.size) := hide ((HLW4.out.alloc _).size)
     go_wp2_with (at_builtin; (refine wpList_append_src rfl (.tmp 32) (.tmp 35) 52 rfl W0.heap.size 31 (.agg #[.int .i64 0, .int .i64 0, .int .i64 0, .int .i64 0, .int .i64 0, .int .i64 0, .int .i64 0, .int .i64 0, .slice none 0 0]) 9 88 Tryz.underlying52 info_op rfl (by omega) (by omega) _ L.length _ rfl HOW4.out _ 1 [.int .i64 1, .int .i64 x.id, .int .i64 x.item, .int .i64 x.due, .int .i64 x.qty, .int .i64 0, .int .i64 0, .int .i64 0, .slice none 0 0] rfl HSR4.out (by have := HLN4.out; omega) HBS4.out ?_); intro v' y4 hown hg hblk; obtain ⟨A4', c4', rfl⟩ := own_form hown; have HO4' := hide hown; have HG4' := hide hg; clear hown hg hblk; have HL4' : Hid (Later W0 y4) := hide ((HLW4.out.alloc _).grown HG4'.out (fun k hk => (World.ownsRow.lt HOW4.out k hk).1)))
     refine ⟨⟨j+1, _, _, _, rfl, by go_num, by omega, hide ?_, HL4'⟩, by simp [intOf]; omega⟩
     rw [HTK.out, <- List.append_assoc, <- HL.out]
     exact OutOps.snoc HEL.out (fun i e o a b => World.ownsRow.alloc (own_later (HQO.out i e o a b) HB3.out) _) HOW4.out HG4'.out ⟨none, 0, 0⟩ (mkOrd x) (World.ownsRow_nil _ _ _ _) HO4'.out
    ·obtain rfl : n3 = j := by omega
     have HA : Hid (D.ords.take n3 = D.ords) := hide (List.take_of_length_le (by have := HN3.out; omega))
     rw [HA.out] at HO
     have HO2 := HO; have HL2 := HLW
     go_wp2_with fail
     go_loopw [3, 38] (fun ov i wr => ∃ (j : Nat) (A5 : Option Addr) (n5 c5 : Nat), ov = .slice A5 n5 c5 /\ i = .int .i64 (j : Int) /\ j <= 40 /\ Hid (OutOps W0.heap.size wr (.slice A5 n5 c5) (tellCaps D.caps 0 ++ (D.ords.map mkOrd ++ tellT D j))) /\ Hid (Later W0 wr)) (fun _ i _ => (40 - intOf i).toNat)
     case atStart => exact ⟨0, _, _, _, rfl, rfl, Nat.zero_le _, hide (by have h9 := HO2.out; simpa [tellT] using h9), HL2⟩
     case round =>
      obtain ⟨j, A5, n5, c5, rfl, rfl, hj, HO, HLW⟩ := hrel
      by_cases hjn : j < 40
      ·have hj0 : (0 : Int) <= (j : Int) := by omega
       have hj1 : (j : Int) < 40 := by omega
       have HLEN : Hid (∀ x : List POp, x.length <= 1 -> ((tellCaps D.caps 0 ++ (D.ords.map mkOrd ++ tellT D j)) ++ x).length <= 3000) := hide (fun x hx => by have := tellT_len D j; have := H.out.cl; have := H.out.ol; rw [List.length_append, List.length_append, List.length_append, tellCaps_len, List.length_map]; omega)
       have r_d := R0.out.later HLW.out
       have d0 := r_d.cell (i := 0) rfl; have d1 := r_d.cell (i := 1) rfl; have d2 := r_d.cell (i := 2) rfl; have d3 := r_d.cell (i := 3) rfl; have d4 := r_d.cell (i := 4) rfl; have d5 := r_d.cell (i := 5) rfl
       clear r_d
       go_upto_region 16 with (go_at_call 93; (with_reducible refine (made_calls _ A1 A2 A3 A4 n1 n2 n3 n4 c1 c2 c3 c4 D (H.out.later (B0.out.trans HLW.out)).mks H.out.ml (j : Int)).mono ?_); rintro e w3 ⟨A7, n7, c7, rfl, o7, hnil, b7⟩; have HNE := hide hnil; clear hnil)
       have HO7 := hide (own_weaken o7 HLW.out.size); have HB3 := hide b7
       clear d0 d1 d2 d3 d4 d5
       have he := run_neq_nil w3 23 3 A7 n7 c7 Tryz.underlying23
       by_cases hm : madeL D (j : Int) = []
       ·obtain rfl := HNE.out hm
        have HC : Hid (tellC D j = []) := hide (by unfold tellC; rw [if_pos hm])
        have HOX : Hid (OutOps W0.heap.size w3 (.slice A5 n5 c5) ((tellCaps D.caps 0 ++ (D.ords.map mkOrd ++ tellT D j)) ++ tellC D j)) := hide (by rw [HC.out, List.append_nil]; exact HO.out.later HB3.out)
        have HLW5 := hide (HLW.out.trans HB3.out)
        have HLENX : Hid (((tellCaps D.caps 0 ++ (D.ords.map mkOrd ++ tellT D j)) ++ tellC D j).length <= 3000) := hide (HLEN.out _ (by unfold tellC; split <;> simp))
        clear hm
        have x2 := (R0.out.later HLW5.out).cell (i := 2) rfl
        go_upto_region 18 with fail
        by_cases hnow : (j : Int) < D.now
        ·have t2 : decide ((j : Int) < D.now) = true := by simpa using hnow
         have HT : Hid (tellA D j = [mkAdv]) := hide (by unfold tellA; rw [if_pos hnow])
         obtain ⟨fs, hel, hq, hown⟩ := HOX.out
         obtain ⟨M, hM⟩ : ∃ M, M = ((tellCaps D.caps 0 ++ (D.ords.map mkOrd ++ tellT D j)) ++ tellC D j) := ⟨_, rfl⟩
         have HM := hide hM
         rw [<- hM] at hel hq hown
         have HELM := hide hel; have HQM := hide hq; have HOWNM := hide hown
         have HLN5 : Hid (M.length <= 3000) := hide (by rw [hM]; exact HLENX.out)
         clear hel hq hown hM hnow
         have HOW5 : Hid ((w3.alloc (Obj.cells #[Value.int .i64 4, Value.int .i64 0, Value.int .i64 0, Value.int .i64 0, Value.int .i64 0, Value.int .i64 0, Value.int .i64 0, Value.int .i64 0, Value.slice none 0 0] 31)).ownsRow W0.heap.size 31 9 (.slice A5 n5 c5) M.length ((fs.zip M).flatMap opCells)) := hide (World.ownsRow.alloc (own_later HOWNM.out (Later.refl _)) _)
         have HSR5 : Hid (Src (w3.alloc (Obj.cells #[Value.int .i64 4, Value.int .i64 0, Value.int .i64 0, Value.int .i64 0, Value.int .i64 0, Value.int .i64 0, Value.int .i64 0, Value.int .i64 0, Value.slice none 0 0] 31)) 9 (.slice (some ⟨w3.heap.size, 0, none⟩) 1 1) 1 [.int .i64 4, .int .i64 0, .int .i64 0, .int .i64 0, .int .i64 0, .int .i64 0, .int .i64 0, .int .i64 0, .slice none 0 0]) := hide ⟨rfl, (by intro u hu; simp at hu; rcases hu with rfl | rfl | rfl | rfl | rfl | rfl | rfl | rfl | rfl <;> rfl), .inr ⟨_, _, rfl, fun jj u hj => by rw [addr_add, Nat.zero_add]; exact (Row.new w3 31 [.int .i64 4, .int .i64 0, .int .i64 0, .int .i64 0, .int .i64 0, .int .i64 0, .int .i64 0, .int .i64 0, .slice none 0 0]).cell hj⟩⟩
         have HBS5 : Hid (W0.heap.size <= (w3.alloc (Obj.cells #[Value.int .i64 4, Value.int .i64 0, Value.int .i64 0, Value.int .i64 0, Value.int .i64 0, Value.int .i64 0, Value.int .i64 0, Value.int .i64 0, Value.slice none 0 0] 31)).heap.size) := hide ((HLW5.out.alloc _).size)
         go_wp2_with (at_builtin; (refine wpList_append_src rfl (.tmp 56) (.tmp 58) 52 rfl W0.heap.size 31 (.agg #[.int .i64 0, .int .i64 0, .int .i64 0, .int .i64 0, .int .i64 0, .int .i64 0, .int .i64 0, .int .i64 0, .slice none 0 0]) 9 88 Tryz.underlying52 info_op rfl (by omega) (by omega) _ M.length _ rfl HOW5.out _ 1 [.int .i64 4, .int .i64 0, .int .i64 0, .int .i64 0, .int .i64 0, .int .i64 0, .int .i64 0, .int .i64 0, .slice none 0 0] rfl HSR5.out (by have := HLN5.out; omega) HBS5.out ?_); intro v' y5 hown hg hblk; obtain ⟨A5', c5', rfl⟩ := own_form hown; have HO5' := hide hown; have HG5' := hide hg; clear hown hg hblk; have HL5' : Hid (Later W0 y5) := hide ((HLW5.out.alloc _).grown HG5'.out (fun k hk => (World.ownsRow.lt HOW5.out k hk).1)))
         refine ⟨⟨j+1, _, _, _, rfl, by go_num, by omega, hide ?_, HL5'⟩, by simp [intOf]; omega⟩
         have he2 : tellCaps D.caps 0 ++ (D.ords.map mkOrd ++ tellT D (j+1)) = M ++ [mkAdv] := by
          rw [HM.out, tellT_succ]; unfold tellP; rw [HT.out]; simp [List.append_assoc]
         rw [he2]
         exact OutOps.snoc HELM.out (fun i e o a b => World.ownsRow.alloc (own_later (HQM.out i e o a b) (Later.refl _)) _) HOW5.out HG5'.out ⟨none, 0, 0⟩ mkAdv (World.ownsRow_nil _ _ _ _) HO5'.out
        ·have t2 : decide ((j : Int) < D.now) = false := by simpa using hnow
         have HT : Hid (tellA D j = []) := hide (by unfold tellA; rw [if_neg hnow])
         clear hnow
         go_wp2_with fail
         refine ⟨⟨j+1, _, _, _, rfl, by go_num, by omega, hide ?_, HLW5⟩, by simp [intOf]; omega⟩
         have hf := HOX.out
         rw [tellT_succ]
         unfold tellP
         rw [HT.out]
         simpa [List.append_assoc] using hf
       ·obtain ⟨g7, rfl⟩ := own_some HO7.out (List.length_pos_iff.2 hm)
        have HC : Hid (tellC D j = [mkCom (j : Int) (madeL D (j : Int))]) := hide (by unfold tellC; rw [if_neg hm])
        have HLENX : Hid (((tellCaps D.caps 0 ++ (D.ords.map mkOrd ++ tellT D j)) ++ tellC D j).length <= 3000) := hide (HLEN.out _ (by unfold tellC; split <;> simp))
        clear hm
        obtain ⟨es, hel, hq, hown⟩ := HO.out
        obtain ⟨L, hL⟩ : ∃ L, L = (tellCaps D.caps 0 ++ (D.ords.map mkOrd ++ tellT D j)) := ⟨_, rfl⟩
        have HL := hide hL
        rw [<- hL] at hel hq hown
        have hn5 : n5 = L.length := (own_len3 hown).1
        subst hn5
        have HEL := hide hel; have HQO := hide hq; have HOWN := hide hown
        clear hel hq hown hL HO
        have HLN4 : Hid (L.length <= 3000) := hide (by rw [HL.out]; have h := HLEN.out [] (by simp); rw [List.append_nil] at h; exact h)
        have HLW4 := hide (HLW.out.trans HB3.out)
        have HOW4 : Hid ((w3.alloc (Obj.cells #[Value.int .i64 5, Value.int .i64 0, Value.int .i64 0, Value.int .i64 0, Value.int .i64 0, Value.int .i64 0, Value.int .i64 (j : Int), Value.int .i64 0, Value.slice (some ⟨g7, 0, none⟩) n7 c7] 31)).ownsRow W0.heap.size 31 9 (.slice A5 L.length c5) L.length ((es.zip L).flatMap opCells)) := hide (World.ownsRow.alloc (own_later HOWN.out (HB3.out)) _)
        have HSR4 : Hid (Src (w3.alloc (Obj.cells #[Value.int .i64 5, Value.int .i64 0, Value.int .i64 0, Value.int .i64 0, Value.int .i64 0, Value.int .i64 0, Value.int .i64 (j : Int), Value.int .i64 0, Value.slice (some ⟨g7, 0, none⟩) n7 c7] 31)) 9 (.slice (some ⟨w3.heap.size, 0, none⟩) 1 1) 1 [.int .i64 5, .int .i64 0, .int .i64 0, .int .i64 0, .int .i64 0, .int .i64 0, .int .i64 (j : Int), .int .i64 0, .slice (some ⟨g7, 0, none⟩) n7 c7]) := hide ⟨rfl, (by intro u hu; simp at hu; rcases hu with rfl | rfl | rfl | rfl | rfl | rfl | rfl | rfl | rfl <;> rfl), .inr ⟨_, _, rfl, fun jj u hj => by rw [addr_add, Nat.zero_add]; exact (Row.new w3 31 [.int .i64 5, .int .i64 0, .int .i64 0, .int .i64 0, .int .i64 0, .int .i64 0, .int .i64 (j : Int), .int .i64 0, .slice (some ⟨g7, 0, none⟩) n7 c7]).cell hj⟩⟩
        have HBS4 : Hid (W0.heap.size <= (w3.alloc (Obj.cells #[Value.int .i64 5, Value.int .i64 0, Value.int .i64 0, Value.int .i64 0, Value.int .i64 0, Value.int .i64 0, Value.int .i64 (j : Int), Value.int .i64 0, Value.slice (some ⟨g7, 0, none⟩) n7 c7] 31)).heap.size) := hide ((HLW4.out.alloc _).size)
        go_upto_region 18 with (at_builtin; (refine wpList_append_src rfl (.tmp 46) (.tmp 50) 52 rfl W0.heap.size 31 (.agg #[.int .i64 0, .int .i64 0, .int .i64 0, .int .i64 0, .int .i64 0, .int .i64 0, .int .i64 0, .int .i64 0, .slice none 0 0]) 9 88 Tryz.underlying52 info_op rfl (by omega) (by omega) _ L.length _ rfl HOW4.out _ 1 [.int .i64 5, .int .i64 0, .int .i64 0, .int .i64 0, .int .i64 0, .int .i64 0, .int .i64 (j : Int), .int .i64 0, .slice (some ⟨g7, 0, none⟩) n7 c7] rfl HSR4.out (by have := HLN4.out; omega) HBS4.out ?_); intro v' y4 hown hg hblk; obtain ⟨A4', c4', rfl⟩ := own_form hown; have HO4' := hide hown; have HG4' := hide hg; clear hown hg hblk; have HL4' : Hid (Later W0 y4) := hide ((HLW4.out.alloc _).grown HG4'.out (fun k hk => (World.ownsRow.lt HOW4.out k hk).1)); have x2 := (R0.out.later HL4'.out).cell (i := 2) rfl)
        have HOX : Hid (OutOps W0.heap.size y4 (.slice A4' (L.length + 1) c4') ((tellCaps D.caps 0 ++ (D.ords.map mkOrd ++ tellT D j)) ++ tellC D j)) := hide (by rw [HC.out, <- HL.out]; exact OutOps.snoc HEL.out (fun i e o a b => World.ownsRow.alloc (own_later (HQO.out i e o a b) (HB3.out)) _) HOW4.out HG4'.out ⟨some ⟨g7, 0, none⟩, n7, c7⟩ (mkCom (j : Int) (madeL D (j : Int))) (World.ownsRow.alloc HO7.out _) HO4'.out)
        have HLW5 := HL4'
        by_cases hnow : (j : Int) < D.now
        ·have t2 : decide ((j : Int) < D.now) = true := by simpa using hnow
         have HT : Hid (tellA D j = [mkAdv]) := hide (by unfold tellA; rw [if_pos hnow])
         obtain ⟨fs, hel, hq, hown⟩ := HOX.out
         obtain ⟨M, hM⟩ : ∃ M, M = ((tellCaps D.caps 0 ++ (D.ords.map mkOrd ++ tellT D j)) ++ tellC D j) := ⟨_, rfl⟩
         have HM := hide hM
         rw [<- hM] at hel hq hown
         have HELM := hide hel; have HQM := hide hq; have HOWNM := hide hown
         have HLN5 : Hid (M.length <= 3000) := hide (by rw [hM]; exact HLENX.out)
         clear hel hq hown hM hnow
         have HOW5 : Hid ((y4.alloc (Obj.cells #[Value.int .i64 4, Value.int .i64 0, Value.int .i64 0, Value.int .i64 0, Value.int .i64 0, Value.int .i64 0, Value.int .i64 0, Value.int .i64 0, Value.slice none 0 0] 31)).ownsRow W0.heap.size 31 9 (.slice A4' (L.length + 1) c4') M.length ((fs.zip M).flatMap opCells)) := hide (World.ownsRow.alloc (own_later HOWNM.out (Later.refl _)) _)
         have HSR5 : Hid (Src (y4.alloc (Obj.cells #[Value.int .i64 4, Value.int .i64 0, Value.int .i64 0, Value.int .i64 0, Value.int .i64 0, Value.int .i64 0, Value.int .i64 0, Value.int .i64 0, Value.slice none 0 0] 31)) 9 (.slice (some ⟨y4.heap.size, 0, none⟩) 1 1) 1 [.int .i64 4, .int .i64 0, .int .i64 0, .int .i64 0, .int .i64 0, .int .i64 0, .int .i64 0, .int .i64 0, .slice none 0 0]) := hide ⟨rfl, (by intro u hu; simp at hu; rcases hu with rfl | rfl | rfl | rfl | rfl | rfl | rfl | rfl | rfl <;> rfl), .inr ⟨_, _, rfl, fun jj u hj => by rw [addr_add, Nat.zero_add]; exact (Row.new y4 31 [.int .i64 4, .int .i64 0, .int .i64 0, .int .i64 0, .int .i64 0, .int .i64 0, .int .i64 0, .int .i64 0, .slice none 0 0]).cell hj⟩⟩
         have HBS5 : Hid (W0.heap.size <= (y4.alloc (Obj.cells #[Value.int .i64 4, Value.int .i64 0, Value.int .i64 0, Value.int .i64 0, Value.int .i64 0, Value.int .i64 0, Value.int .i64 0, Value.int .i64 0, Value.slice none 0 0] 31)).heap.size) := hide ((HLW5.out.alloc _).size)
         go_wp2_with (at_builtin; (refine wpList_append_src rfl (.tmp 56) (.tmp 58) 52 rfl W0.heap.size 31 (.agg #[.int .i64 0, .int .i64 0, .int .i64 0, .int .i64 0, .int .i64 0, .int .i64 0, .int .i64 0, .int .i64 0, .slice none 0 0]) 9 88 Tryz.underlying52 info_op rfl (by omega) (by omega) _ M.length _ rfl HOW5.out _ 1 [.int .i64 4, .int .i64 0, .int .i64 0, .int .i64 0, .int .i64 0, .int .i64 0, .int .i64 0, .int .i64 0, .slice none 0 0] rfl HSR5.out (by have := HLN5.out; omega) HBS5.out ?_); intro v' y5 hown hg hblk; obtain ⟨A5', c5', rfl⟩ := own_form hown; have HO5' := hide hown; have HG5' := hide hg; clear hown hg hblk; have HL5' : Hid (Later W0 y5) := hide ((HLW5.out.alloc _).grown HG5'.out (fun k hk => (World.ownsRow.lt HOW5.out k hk).1)))
         refine ⟨⟨j+1, _, _, _, rfl, by go_num, by omega, hide ?_, HL5'⟩, by simp [intOf]; omega⟩
         have he2 : tellCaps D.caps 0 ++ (D.ords.map mkOrd ++ tellT D (j+1)) = M ++ [mkAdv] := by
          rw [HM.out, tellT_succ]; unfold tellP; rw [HT.out]; simp [List.append_assoc]
         rw [he2]
         exact OutOps.snoc HELM.out (fun i e o a b => World.ownsRow.alloc (own_later (HQM.out i e o a b) (Later.refl _)) _) HOW5.out HG5'.out ⟨none, 0, 0⟩ mkAdv (World.ownsRow_nil _ _ _ _) HO5'.out
        ·have t2 : decide ((j : Int) < D.now) = false := by simpa using hnow
         have HT : Hid (tellA D j = []) := hide (by unfold tellA; rw [if_neg hnow])
         clear hnow
         go_wp2_with fail
         refine ⟨⟨j+1, _, _, _, rfl, by go_num, by omega, hide ?_, HLW5⟩, by simp [intOf]; omega⟩
         have hf := HOX.out
         rw [tellT_succ]
         unfold tellP
         rw [HT.out]
         simpa [List.append_assoc] using hf
      ·obtain rfl : j = 40 := by omega
       have HV : Hid ((tellCaps D.caps 0 ++ (D.ords.map mkOrd ++ tellT D 40)) = tellV D) := hide rfl
       rw [HV.out] at HO
       go_wp2_with fail
       go_ret
       exact ⟨A5, n5, c5, rfl, HO.out.weaken B0.out.size, B0.out.trans HLW.out⟩
end Go.Proofs.YtncbebfhakcgdaaGreat
namespace Go.Proofs.YtncbebfhakcgdaaGreat
open Go.RowKit Go.Shelf
attribute [local go_sem ↓] Go.wp_at_zero Go.wp_at_succ
theorem runV_step {D F E : PBook} {l : List POp} {j : Nat} {o : POp} (h : runV D l = .ok F) (hj : l[j]? = some o) (hE : runV D (l.take j) = .ok E) : ∃ E', applyV E o = .ok E' /\ runV D (l.take (j+1)) = .ok E' := by
 have e := take_drop_at hj
 rw [e, runV_append hE] at h
 have h1 : (match applyV E o with | .ok E' => runV E' (l.drop (j+1)) | .error c => .error c) = .ok F := h
 cases e2 : applyV E o with
 | error c => rw [e2] at h1; cases h1
 | ok E' =>
   refine ⟨E', rfl, ?_⟩
   rw [List.take_add_one, hj, runV_append hE]
   show runV E [o] = _
   rw [runV_cons e2]; rfl
theorem ifit0 : IFit 0 := by unfold IFit; omega
theorem tell_fit {D : PBook} (h : MayP D) : ∀ o ∈ tellV D, o.ord.fit /\ o.qtys.length <= 1000 := by
 have hz : POrd.fit ⟨0, 0, 0, 0⟩ := ⟨ifit0, ifit0, ifit0, ifit0⟩
 have hm : ∀ p : Int, (madeL D p).length <= 1000 := fun p => by
  unfold madeL; rw [List.length_map]
  have := List.length_filter_le (fun x : PMk => decide (x.period = p)) D.mks
  have := h.ml; omega
 have hc : ∀ (l : List Int) (i : Nat), ∀ o ∈ tellCaps l i, o.ord.fit /\ o.qtys.length <= 1000 := by
  intro l
  induction l with
  | nil => intro i o ho; cases ho
  | cons x l ih =>
    intro i o ho
    rcases List.mem_cons.1 ho with rfl | ho
    ·exact ⟨hz, by simp [mkCap]⟩
    ·exact ih _ o ho
 intro o ho
 unfold tellV at ho
 rcases List.mem_append.1 ho with ho | ho
 ·exact hc _ _ o ho
 rcases List.mem_append.1 ho with ho | ho
 ·obtain ⟨x, hx, rfl⟩ := List.mem_map.1 ho
  exact ⟨(fit_of_may h).ofit x hx, by simp [mkOrd]⟩
 ·unfold tellT at ho
  obtain ⟨p, -, ho⟩ := List.mem_flatMap.1 ho
  unfold tellP tellC tellA at ho
  rcases List.mem_append.1 ho with ho | ho
  ·split at ho
   ·cases ho
   ·obtain rfl := List.mem_singleton.1 ho
    exact ⟨hz, hm _⟩
  ·split at ho
   ·obtain rfl := List.mem_singleton.1 ho
    exact ⟨hz, by simp [mkAdv]⟩
   ·cases ho
def StoryP (w : World) (l : List POp) (e : Ending) (w' : World) : Prop := ∃ A n c, e = .returned (.tuple #[.slice A n c, .int .i64 0]) /\ OutOps w.heap.size w' (.slice A n c) l /\ Later w w'
set_option maxHeartbeats 4000000 in
theorem story_calls (w : World) (A1 A2 A3 A4 : Option Addr) (n1 n2 n3 n4 c1 c2 c3 c4 : Nat) (D : PBook) (hs : StoB D) (h : BookIn w (.slice A1 n1 c1) (.slice A2 n2 c2) (.slice A3 n3 c3) (.slice A4 n4 c4) D) :
 Calls Tryz.prog 25 #[.agg #[.slice A1 n1 c1, .int .i64 D.hor, .int .i64 D.now, .slice A2 n2 c2, .slice A3 n3 c3, .slice A4 n4 c4]] w (StoryP w (tellV D)) := by
 have H := hide h; have HS := hide hs
 have HRUN := hide (tell_run hs)
 have HC : Hid (∀ W, Later w W -> Calls Tryz.prog 14 #[.slice A1 n1 c1, .int .i64 D.hor] W (CauP W (.ok (newD D.items D.hor)))) := hide (fun W hW => by
  have h2 := new_calls W A1 n1 c1 D.items D.hor (h.its.later hW) h.il h.hfit
  have hh : HeadP (newD D.items D.hor) := head_of hs.may.head rfl rfl (by show (0 : Int) <= 0 /\ (0 : Int) <= 40; omega) ⟨by simp [newD], fun c hc => by simp [newD] at hc⟩
  unfold newV at h2
  rw [if_pos (mayB_iff.2 (newD_may hh))] at h2; exact h2)
 clear h hs
 obtain ⟨W0, hW0⟩ : ∃ W0, W0 = (w.alloc (Obj.cells #[Value.slice A1 n1 c1, Value.int .i64 D.hor, Value.int .i64 D.now, Value.slice A2 n2 c2, Value.slice A3 n3 c3, Value.slice A4 n4 c4] 27)) := ⟨_, rfl⟩
 obtain ⟨hb0, r0, hsz0⟩ := boxes1 w [.slice A1 n1 c1, .int .i64 D.hor, .int .i64 D.now, .slice A2 n2 c2, .slice A3 n3 c3, .slice A4 n4 c4] 27 hW0
 have B0 := hide hb0; have HW0 := hide hW0; have HSZ0 := hide hsz0
 have R0 := hide r0
 clear hb0 hW0 hsz0 r0
 go_enter Tryz.func25, Tryz.ntmps25
 go_upto_region 1 with fail
 rw [<- HW0.out]
 have r_x := R0.out.later (Later.refl W0)
 have x0 := r_x.cell (i := 0) rfl; have x1 := r_x.cell (i := 1) rfl; have x2 := r_x.cell (i := 2) rfl; have x3 := r_x.cell (i := 3) rfl; have x4 := r_x.cell (i := 4) rfl; have x5 := r_x.cell (i := 5) rfl
 clear r_x
 go_upto_region 2 with (go_at_call 14; (refine (HC.out W0 B0.out).mono ?_); rintro e w1 h1; obtain ⟨b1, hm1, B1, B2, B3, B4, m1, m2, m3, m4, d1, d2, d3, d4, rfl, hk1⟩ := h1)
 obtain ⟨W2, hW2⟩ : ∃ W2, W2 = w1.alloc (Obj.cells #[Value.slice B1 m1 d1, Value.int .i64 (newD D.items D.hor).hor, Value.int .i64 (newD D.items D.hor).now, Value.slice B2 m2 d2, Value.slice B3 m3 d3, Value.slice B4 m4 d4] 27) := ⟨_, rfl⟩
 obtain ⟨gN, hgN⟩ : ∃ gN, gN = w1.heap.size := ⟨_, rfl⟩
 have bW2 : Later w1 W2 := by rw [hW2]; exact (Later.refl _).alloc _
 have rgN : Row W2 gN 27 [.slice B1 m1 d1, .int .i64 (newD D.items D.hor).hor, .int .i64 (newD D.items D.hor).now, .slice B2 m2 d2, .slice B3 m3 d3, .slice B4 m4 d4] := by rw [hW2, hgN]; exact Row.new _ _ _
 rw [<- hW2, <- hgN]
 have HL2 := hide (b1.trans bW2)
 have HGN : Hid (W0.heap.size <= gN) := hide (by rw [hgN]; exact b1.size)
 have HRN0 := hide rgN
 have HBN0 := hide ((hk1.weaken B0.out.size).later bW2)
 have HMN0 := hide hm1
 clear hW2 hgN b1 bW2 rgN hk1 hm1 x0 x1 x2 x3 x4 x5
 have r_x := R0.out.later HL2.out
 have x0 := r_x.cell (i := 0) rfl; have x1 := r_x.cell (i := 1) rfl; have x2 := r_x.cell (i := 2) rfl; have x3 := r_x.cell (i := 3) rfl; have x4 := r_x.cell (i := 4) rfl; have x5 := r_x.cell (i := 5) rfl
 clear r_x
 go_upto_region 5 with (go_at_call 54; (with_reducible refine (tell_calls _ A1 A2 A3 A4 n1 n2 n3 n4 c1 c2 c3 c4 D (H.out.later (B0.out.trans HL2.out))).mono ?_); rintro e w3 ⟨A9, n9, c9, rfl, ho3, b3⟩)
 have hn9 : n9 = (tellV D).length := by
  obtain ⟨_, _, _, e, e2, -⟩ := ho3.ops.form
  injection e with _ e3 _; omega
 obtain ⟨l, hl⟩ : ∃ l, l = tellV D := ⟨_, rfl⟩
 have HTL := hide hl
 have HFIT := hide (tell_fit HS.out.may)
 rw [<- hl] at ho3 hn9 HRUN HFIT
 have HN9 := hide hn9
 have HO3 := hide (ho3.weaken (by have h1 := B0.out.size; have h2 := HL2.out.size; omega : w.heap.size <= W2.heap.size)); have HB3 := hide b3
 have HL3 := hide (HL2.out.trans b3)
 have h999 : n9 <= 4000 := by
  rw [hn9, hl]; unfold tellV
  have h1 := tellT_len D 40
  have h2 := HS.out.may.head.cl; have h3 := HS.out.may.ol
  rw [List.length_append, List.length_append, tellCaps_len, List.length_map]; omega
 clear hl hn9 ho3 b3 x0 x1 x2 x3 x4 x5
 go_wp2_with fail
 go_loopw [23] (fun iv wr => ∃ (j : Nat) (E : PBook) (B1 B2 B3 B4 : Option Addr) (m1 m2 m3 m4 d1 d2 d3 d4 : Nat), iv = .int .i64 (j : Int) /\ j <= n9 /\ Hid (runV (newD D.items D.hor) (l.take j) = .ok E) /\ Hid (Row wr gN 27 [.slice B1 m1 d1, .int .i64 E.hor, .int .i64 E.now, .slice B2 m2 d2, .slice B3 m3 d3, .slice B4 m4 d4]) /\ Hid (BkN w.heap.size wr (.slice B1 m1 d1) (.slice B2 m2 d2) (.slice B3 m3 d3) (.slice B4 m4 d4) E) /\ Hid (MayP E) /\ Hid (OutOps w.heap.size wr (.slice A9 n9 c9) l) /\ Hid (Later W0 wr)) (fun iv _ => (n9 - intOf iv).toNat)
 case atStart => exact ⟨0, newD D.items D.hor, B1, B2, B3, B4, m1, m2, m3, m4, d1, d2, d3, d4, rfl, Nat.zero_le _, hide rfl, hide (HRN0.out.later HB3.out), hide (HBN0.out.later HB3.out), HMN0, HO3, HL3⟩
 case round =>
  obtain ⟨j, E, B1, B2, B3, B4, m1, m2, m3, m4, d1, d2, d3, d4, rfl, hj, HRE, HRN, HBN, HME, HOR, HLR⟩ := hrel
  by_cases hjn : j < n9
  ·obtain ⟨o, ho⟩ : ∃ o, l[j]? = some o := ⟨l[j]'(by have := HN9.out; omega), List.getElem?_eq_getElem _⟩
   obtain ⟨b1, off1, rfl, Aq, nq, cq, hqq, y0, y1, y2, y3, y4, y5, y6, y7, y8⟩ := HOR.out.ops.at9 ho
   obtain ⟨E', ha, hE'⟩ := runV_step HRUN.out ho HRE.out
   have HA := hide ha; have HE' := hide hE'
   have hfo := HFIT.out o (List.mem_of_getElem? ho)
   have hj0 : (0 : Int) <= (j : Int) := by omega
   have hj1 : (j : Int) < n9 := by omega
   clear ho ha hE'
   go_upto_region 8 with fail
   obtain ⟨W3, hW3⟩ : ∃ W3, W3 = wr.alloc (Obj.cells #[Value.int .i64 o.kind, Value.int .i64 o.ord.id, Value.int .i64 o.ord.item, Value.int .i64 o.ord.due, Value.int .i64 o.ord.qty, Value.int .i64 o.id, Value.int .i64 o.period, Value.int .i64 o.qty, Value.slice Aq nq cq] 31) := ⟨_, rfl⟩
   obtain ⟨gO, hgO⟩ : ∃ gO, gO = wr.heap.size := ⟨_, rfl⟩
   have bW3 : Later wr W3 := by rw [hW3]; exact (Later.refl _).alloc _
   have rgO : Row W3 gO 31 [.int .i64 o.kind, .int .i64 o.ord.id, .int .i64 o.ord.item, .int .i64 o.ord.due, .int .i64 o.ord.qty, .int .i64 o.id, .int .i64 o.period, .int .i64 o.qty, .slice Aq nq cq] := by rw [hW3, hgO]; exact Row.new _ _ _
   rw [<- hW3, <- hgO]
   have HB3 := hide bW3
   have HRO := hide rgO
   have HCA : Hid (Calls Tryz.prog 12 #[.agg #[.slice B1 m1 d1, .int .i64 E.hor, .int .i64 E.now, .slice B2 m2 d2, .slice B3 m3 d3, .slice B4 m4 d4], .agg #[.int .i64 o.kind, .int .i64 o.ord.id, .int .i64 o.ord.item, .int .i64 o.ord.due, .int .i64 o.ord.qty, .int .i64 o.id, .int .i64 o.period, .int .i64 o.qty, .slice Aq nq cq]] W3 (CauP W3 (.ok E'))) := hide (by
    have h2 := apply_calls W3 B1 B2 B3 B4 Aq m1 m2 m3 m4 nq d1 d2 d3 d4 cq E o ((HBN.out.later bW3).book (fit_of_may HME.out)) hfo.1 (hqq.later bW3) hfo.2
    rw [HA.out] at h2; exact h2)
   clear hW3 hgO bW3 rgO hqq hfo y0 y1 y2 y3 y4 y5 y6 y7 y8
   have rn := HRN.out.later HB3.out
   have x0 := rn.cell (i := 0) rfl; have x1 := rn.cell (i := 1) rfl; have x2 := rn.cell (i := 2) rfl; have x3 := rn.cell (i := 3) rfl; have x4 := rn.cell (i := 4) rfl; have x5 := rn.cell (i := 5) rfl
   have y0 := HRO.out.cell (i := 0) rfl; have y1 := HRO.out.cell (i := 1) rfl; have y2 := HRO.out.cell (i := 2) rfl; have y3 := HRO.out.cell (i := 3) rfl; have y4 := HRO.out.cell (i := 4) rfl; have y5 := HRO.out.cell (i := 5) rfl; have y6 := HRO.out.cell (i := 6) rfl; have y7 := HRO.out.cell (i := 7) rfl; have y8 := HRO.out.cell (i := 8) rfl
   clear rn
   go_wp2_with (go_at_call 12; (refine (HCA.out).mono ?_); rintro e w4 h4; obtain ⟨b4, hm4, E1, E2, E3, E4, i1, i2, i3, i4, j1, j2, j3, j4, rfl, hk4⟩ := h4; have rn4 := HRN.out.later (HB3.out.trans b4); have q0 := rn4.cell (i := 0) rfl; have qz0 := rn4.frozen 0; have q1 := rn4.cell (i := 1) rfl; have qz1 := rn4.frozen 1; have q2 := rn4.cell (i := 2) rfl; have qz2 := rn4.frozen 2; have q3 := rn4.cell (i := 3) rfl; have qz3 := rn4.frozen 3; have q4 := rn4.cell (i := 4) rfl; have qz4 := rn4.frozen 4; have q5 := rn4.cell (i := 5) rfl; have qz5 := rn4.frozen 5; have HRN4 := hide rn4; have HM4 := hide hm4; have HK4 := hide hk4; have HB4 := hide b4; clear rn4 hm4 hk4)
   have oo := only6 (W := w4) gN (.slice E1 i1 j1) (.int .i64 E'.hor) (.int .i64 E'.now) (.slice E2 i2 j2) (.slice E3 i3 j3) (.slice E4 i4 j4)
   have HB := HB3.out.trans HB4.out
   refine ⟨⟨j+1, E', E1, E2, E3, E4, i1, i2, i3, i4, j1, j2, j3, j4, by go_num, by omega, HE', hide (HRN4.out.put6 _ _ _ _ _ _), hide ?_, HM4, hide ((HOR.out.later HB).box HRN4.out (by decide) (by decide) oo), hide ((HLR.out.trans HB).only oo HGN.out)⟩, by simp [intOf]; omega⟩
   exact (HK4.out.weaken (by have h1 := B0.out.size; have h2 := (HLR.out.trans HB3.out).size; omega)).box (IsBox.book HRN4.out) oo
  ·obtain rfl : j = n9 := by omega
   have hED : E = D := by
    have h1 := HRE.out
    rw [List.take_of_length_le (by have := HN9.out; omega), HRUN.out] at h1
    injection h1 with h1; exact h1.symm
   subst hED
   have rn := HRN.out
   have rb := R0.out.later HLR.out
   have x0 := rn.cell (i := 0) rfl; have y0 := rb.cell (i := 0) rfl; have x1 := rn.cell (i := 1) rfl; have y1 := rb.cell (i := 1) rfl; have x2 := rn.cell (i := 2) rfl; have y2 := rb.cell (i := 2) rfl; have x3 := rn.cell (i := 3) rfl; have y3 := rb.cell (i := 3) rfl; have x4 := rn.cell (i := 4) rfl; have y4 := rb.cell (i := 4) rfl; have x5 := rn.cell (i := 5) rfl; have y5 := rb.cell (i := 5) rfl
   clear rn rb
   go_wp2_with (go_at_call 55; (refine (bksame_calls _ B1 B2 B3 B4 A1 A2 A3 A4 m1 m2 m3 m4 d1 d2 d3 d4 n1 n2 n3 n4 c1 c2 c3 c4 E (HBN.out.book (fit_of_may HME.out)) (H.out.later (B0.out.trans HLR.out))).mono ?_); rintro e w7 ⟨rfl, b7⟩)
   go_ret2
   rw [<- HTL.out]
   exact ⟨A9, j, c9, rfl, HOR.out.later b7, (B0.out.trans HLR.out).trans b7⟩
end Go.Proofs.YtncbebfhakcgdaaGreat
namespace Go.Proofs.YtncbebfhakcgdaaGreat
open Go.RowKit Go.Shelf
attribute [local go_sem ↓] Go.wp_at_zero Go.wp_at_succ
def NumP (w : World) (l : List Int) (e : Ending) (w' : World) : Prop := ∃ A n c, e = .returned (.slice A n c) /\ w'.ownsRow w.heap.size 3 1 (.slice A n c) l.length (l.flatMap iCells) /\ Later w w'
theorem src_of {w : World} {A : Option Addr} {n c : Nat} {l : List Int} (h : Sq 1 iCells w (.slice A n c) l) (hz : A = none -> c = 0) : Src w 1 (.slice A n c) n (l.flatMap iCells) := by
 cases A with
 | none =>
   have hl : l = [] := by
    cases l with
    | nil => rfl
    | cons x l => obtain ⟨b, off, ha, -⟩ := h.at_ (i := 0) rfl; cases ha
   have hn : n = l.length := by
    obtain ⟨_, _, _, e, e2, -⟩ := h.form
    injection e with _ e3 _; omega
   rw [hz rfl, hn, hl]
   exact ⟨rfl, (by simp), .inl ⟨rfl, rfl⟩⟩
 | some ad => exact h.src iCells_ln (by omega) iCells_one
theorem results_sl {fn : Func} {t : Tmp} {tmps : Array Value} {W : World} {v : Value} (h : fn.results = #[.tmp t]) (hp : tmps[t]?.getD undef = v) : (results fn tmps).run Tryz.prog W = .ok v W := by
 simp [results, h, hp, go_sem]
set_option maxHeartbeats 2000000 in
theorem numbers_calls (w : World) (Aq : Option Addr) (nq cq : Nat) (o : POp) (hQ : Sq 1 iCells w (.slice Aq nq cq) o.qtys) (hz : Aq = none -> cq = 0) (hql : o.qtys.length <= 1000) :
 Calls Tryz.prog 45 #[.agg #[.int .i64 o.kind, .int .i64 o.ord.id, .int .i64 o.ord.item, .int .i64 o.ord.due, .int .i64 o.ord.qty, .int .i64 o.id, .int .i64 o.period, .int .i64 o.qty, .slice Aq nq cq]] w (NumP w (numsOf o)) := by
 have hnq : nq = o.qtys.length := by
  obtain ⟨_, _, _, e, e2, -⟩ := hQ.form
  injection e with _ e3 _; omega
 have HNQ := hide hnq; have HS := hide (src_of hQ hz); have HQL : Hid (nq <= 1000) := hide (by omega)
 clear hQ hz hql hnq
 obtain ⟨W0, hW0⟩ : ∃ W0, W0 = (w.alloc (Obj.cells #[Value.int .i64 o.kind, Value.int .i64 o.ord.id, Value.int .i64 o.ord.item, Value.int .i64 o.ord.due, Value.int .i64 o.ord.qty, Value.int .i64 o.id, Value.int .i64 o.period, Value.int .i64 o.qty, Value.slice Aq nq cq] 31)) := ⟨_, rfl⟩
 have B0 := hide (show Later w W0 by rw [hW0]; exact (Later.refl _).alloc _)
 have HR0 := hide (show Row W0 w.heap.size 31 [.int .i64 o.kind, .int .i64 o.ord.id, .int .i64 o.ord.item, .int .i64 o.ord.due, .int .i64 o.ord.qty, .int .i64 o.id, .int .i64 o.period, .int .i64 o.qty, .slice Aq nq cq] by rw [hW0]; exact Row.new _ _ _)
 have HW0 := hide hW0
 clear hW0
 go_enter Tryz.func45, Tryz.ntmps45
 go_upto_region 1 with fail
 rw [<- HW0.out]
 have x0 := HR0.out.cell (i := 0) rfl; have x1 := HR0.out.cell (i := 1) rfl; have x2 := HR0.out.cell (i := 2) rfl; have x3 := HR0.out.cell (i := 3) rfl; have x4 := HR0.out.cell (i := 4) rfl; have x5 := HR0.out.cell (i := 5) rfl; have x6 := HR0.out.cell (i := 6) rfl; have x7 := HR0.out.cell (i := 7) rfl; have x8 := HR0.out.cell (i := 8) rfl
 by_cases k1 : o.kind = 1
 ·have t1 : (o.kind == 1) = true := by simpa using k1
  go_wp2_with fail
  refine bodyPost_ret (results_sl rfl rfl) rfl ?_
  exact ⟨_, _, _, rfl, by unfold numsOf; rw [if_pos k1]; exact own_weaken (World.ownsRow_lit W0 #[Value.int .i64 o.ord.id, Value.int .i64 o.ord.item, Value.int .i64 o.ord.due, Value.int .i64 o.ord.qty] (e := 3) (size := 1) (base := W0.heap.size) 4 (Nat.le_refl _) (by decide) rfl) B0.out.size, B0.out.alloc _⟩
 ·have t1 : (o.kind == 1) = false := by simpa using k1
  by_cases k2 : o.kind = 2
  ·have t2 : (o.kind == 2) = true := by simpa using k2
   go_wp2_with fail
   refine bodyPost_ret (results_sl rfl rfl) rfl ?_
   exact ⟨_, _, _, rfl, by unfold numsOf; rw [if_neg (by omega), if_pos k2]; exact own_weaken (World.ownsRow_lit W0 #[Value.int .i64 o.id] (e := 3) (size := 1) (base := W0.heap.size) 1 (Nat.le_refl _) (by decide) rfl) B0.out.size, B0.out.alloc _⟩
  ·have t2 : (o.kind == 2) = false := by simpa using k2
   by_cases k3 : o.kind = 3
   ·have t3 : (o.kind == 3) = true := by simpa using k3
    go_wp2_with fail
    refine bodyPost_ret (results_sl rfl rfl) rfl ?_
    exact ⟨_, _, _, rfl, by unfold numsOf; rw [if_neg (by omega), if_neg (by omega), if_pos k3]; exact own_weaken (World.ownsRow_lit W0 #[Value.int .i64 o.period, Value.int .i64 o.qty] (e := 3) (size := 1) (base := W0.heap.size) 2 (Nat.le_refl _) (by decide) rfl) B0.out.size, B0.out.alloc _⟩
   ·have t3 : (o.kind == 3) = false := by simpa using k3
    by_cases k5 : o.kind = 5
    ·have t5 : (o.kind == 5) = true := by simpa using k5
     have HLIT : Hid ((W0.alloc (Obj.cells #[Value.int .i64 o.period] 3)).ownsRow W0.heap.size 3 1 (.slice (some ⟨W0.heap.size, 0, none⟩) 1 1) 1 [.int .i64 o.period]) := hide (World.ownsRow_lit W0 #[Value.int .i64 o.period] (e := 3) (size := 1) 1 (Nat.le_refl _) (by decide) rfl)
     have HSRC : Hid (Src (W0.alloc (Obj.cells #[Value.int .i64 o.period] 3)) 1 (.slice Aq nq cq) nq (o.qtys.flatMap iCells)) := hide (HS.out.later (B0.out.alloc _))
     have y8 := (HR0.out.alloc (Obj.cells #[Value.int .i64 o.period] 3)).cell (i := 8) rfl
     go_wp2_with (at_builtin; (refine wpList_append_src rfl (.tmp 36) (.tmp 38) 23 rfl W0.heap.size 3 (.int .i64 0) 1 8 Tryz.underlying23 info_int rfl (by omega) (by omega) _ 1 [.int .i64 o.period] rfl HLIT.out _ nq (o.qtys.flatMap iCells) rfl HSRC.out (by have := HQL.out; omega) (by show W0.heap.size <= (W0.alloc _).heap.size; rw [World.size_alloc]; omega) ?_); intro v' w5 hown hg hblk; obtain ⟨A6, c6, rfl⟩ := own_form hown; have HO5 := hide hown; have HG5 := hide hg; clear hown hg hblk)
     refine bodyPost_ret (results_sl rfl rfl) rfl ?_
     refine ⟨_, _, _, rfl, ?_, ((B0.out.alloc _).grown HG5.out (fun k hk => by injection hk with hk; subst hk; exact B0.out.size))⟩
     unfold numsOf
     rw [if_neg k1, if_neg k2, if_neg k3, if_pos k5, List.length_cons, List.flatMap_cons, <- HNQ.out]
     have h := HO5.out
     rw [Nat.add_comm 1 nq] at h
     rw [Nat.add_comm 1 nq]
     exact own_weaken h B0.out.size
    ·have t5 : (o.kind == 5) = false := by simpa using k5
     go_wp2_with fail
     refine bodyPost_ret (results_sl rfl rfl) rfl ?_
     refine ⟨_, _, _, rfl, ?_, B0.out⟩
     unfold numsOf
     rw [if_neg k1, if_neg k2, if_neg k3, if_neg k5]
     exact World.ownsRow_nil _ _ _ _
end Go.Proofs.YtncbebfhakcgdaaGreat
