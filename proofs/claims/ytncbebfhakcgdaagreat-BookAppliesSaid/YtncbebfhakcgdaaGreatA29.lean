/- Books: items that are made; the same books; the same bytes. -/
import Derived.Test.YtncbebfhakcgdaaGreatA28
import Derived.Test.YtncbebfhakcgdaaGreatA19
import Derived.Test.YtncbebfhakcgdaaGreatA7
import Derived.Laws.BytesArg
import Derived.Deep.CutBlock
set_option linter.unusedVariables false
set_option linter.unusedSimpArgs false
set_option maxRecDepth 100000
namespace Go.Proofs.YtncbebfhakcgdaaGreat
open Go.RowKit Go.Shelf
attribute [local go_sem ↓] Go.wp_at_zero Go.wp_at_succ
def itm : PItem := ⟨3, 1, 2, true, true, true⟩
def itemsN (n : Int) : List PItem := List.replicate ((n % 2).toNat + 1) itm
theorem OwnR.kept_types {w w' : World} {B lo sz n : Nat} {T : TypeId} {u v : Value} {xs : List Value} {q : Rat} (h : OwnR w B v q) (hg : w.grownBy w' u.ownBlock) (ho : w.ownsRow lo T sz u n xs) (hne : 160 ≠ T) : OwnR w' B v q := by
 obtain ⟨A, n, c, A', n', c', e, h1, h2⟩ := h
 exact ⟨A, n, c, A', n', c', e, ⟨h1.1, own_kept h1.2 hg (apart_types h1.2 ho hne)⟩, ⟨h2.1, own_kept h2.2 hg (apart_types h2.2 ho hne)⟩⟩
def OwnIt (w : World) (e : ICells × ICells × ICells) : Prop := OwnR w 0 (.agg e.1.cells.toArray) 3 /\ OwnR w 0 (.agg e.2.1.cells.toArray) 1 /\ OwnR w 0 (.agg e.2.2.cells.toArray) 2
theorem OwnIt.later {w w' : World} {e : ICells × ICells × ICells} (h : OwnIt w e) (hb : Later w w') : OwnIt w' e := ⟨h.1.later hb, h.2.1.later hb, h.2.2.later hb⟩
theorem OwnIt.kept {w w' : World} {lo sz n : Nat} {T : TypeId} {u : Value} {xs : List Value} {e : ICells × ICells × ICells} (h : OwnIt w e) (hg : w.grownBy w' u.ownBlock) (ho : w.ownsRow lo T sz u n xs) (hne : 160 ≠ T) : OwnIt w' e :=
 ⟨h.1.kept_types hg ho hne, h.2.1.kept_types hg ho hne, h.2.2.kept_types hg ho hne⟩
theorem items_end {w : World} {lo j : Nat} {v : Value} {es : List (ICells × ICells × ICells)} (hl : es.length = j) (ho : w.ownsRow lo 69 12 v j (es.flatMap cellsI)) (h : ∀ e ∈ es, OwnIt w e) : Its 12 w v (List.replicate j itm) := by
 refine Its.of_own (lo := lo) (T := 69) (by rw [List.length_replicate]; exact ho) ⟨by rw [List.length_replicate, hl], fun i e x h1 h2 => ?_⟩
 have hx : x = itm := by
  have := List.mem_of_getElem? h2
  exact (List.mem_replicate.1 this).2
 subst hx
 obtain ⟨a, b, c⟩ := h e (List.mem_of_getElem? h1)
 exact ⟨enum_own a sized_3, enum_own b sized_1, enum_own c sized_2⟩
def ItemsP (w : World) (l : List PItem) (e : Ending) (w' : World) : Prop := ∃ A n c, e = .returned (.slice A n c) /\ Its 12 w' (.slice A n c) l /\ Later w w'
set_option maxHeartbeats 1000000 in
theorem items20_calls (w : World) (n : Int) (hn : 0 <= n /\ n <= 255) :
 Calls Tryz.prog 24 #[.int .u8 n] w (ItemsP w (itemsN n)) := by
 obtain ⟨N, hN⟩ : ∃ N : Nat, (N : Int) = n % 2 := ⟨(n % 2).toNat, by omega⟩
 have hN1 : N <= 1 := by omega
 have HN := hide hN
 have hw1 : IntKind.i64.wrap n = n := IntWalk.i64_in _ (by omega)
 clear hN
 go_enter Tryz.func24, Tryz.ntmps24
 go_wp2_with fail
 clear hw1
 go_loopw [3, 4] (fun ov iv wr => ∃ (j : Nat) (A : Option Addr) (m c : Nat) (es : List (ICells × ICells × ICells)), ov = .slice A m c /\ iv = .int .i64 (j : Int) /\ j <= N + 1 /\ es.length = j /\ Hid (wr.ownsRow w.heap.size 69 12 (.slice A m c) j (es.flatMap cellsI)) /\ Hid (∀ e ∈ es, OwnIt wr e) /\ Hid (Later w wr)) (fun _ iv _ => (N + 1 - intOf iv).toNat)
 case atStart => exact ⟨0, none, 0, 0, [], rfl, rfl, Nat.zero_le _, rfl, hide (World.ownsRow_nil _ _ _ _), hide (fun e he => by cases he), hide (Later.refl _)⟩
 case round =>
  obtain ⟨j, A, m, c, es, rfl, rfl, hj, hes, HOWN, HIT, HL⟩ := hrel
  have hw1 : IntKind.i64.wrap n = n := IntWalk.i64_in _ (by omega)
  have hw2 : n.tmod 2 = (N : Int) := by rw [Int.tmod_eq_emod_of_nonneg hn.1]; exact HN.out.symm
  have hw3 : n % 2 = (N : Int) := HN.out.symm
  by_cases hjn : j <= N
  ·have t1 : decide (j <= N) = true := by simpa using hjn
   go_wp2_with (first | (go_at_call 53; (with_reducible refine (lawof_calls _ 3 (by decide) (by decide) 3 (by decide +kernel)).mono ?_); rintro e a1 ⟨v1, rfl, o1, b1⟩; obtain ⟨s1, P1, q1, e1, P1', q1', e1', rfl, o1⟩ := o1.open_; have O1 := hide o1; clear o1) | (go_at_call 53; (with_reducible refine (lawof_calls _ 1 (by decide) (by decide) 1 (by decide +kernel)).mono ?_); rintro e a2 ⟨v2, rfl, o2, b2⟩; obtain ⟨s2, P2, q2, e2, P2', q2', e2', rfl, o2⟩ := o2.open_; have O2 := hide o2; clear o2) | (go_at_call 53; (with_reducible refine (lawof_calls _ 2 (by decide) (by decide) 2 (by decide +kernel)).mono ?_); rintro e a3 ⟨v3, rfl, o3, b3⟩; obtain ⟨s3, P3, q3, e3, P3', q3', e3', rfl, o3⟩ := o3.open_; have O3 := hide o3; clear o3) | (at_builtin; (refine wpList_append_src rfl (.tmp 12) (.tmp 17) 22 rfl w.heap.size 69 (.agg #[.bool false, .slice none 0 0, .bool false, .slice none 0 0, .bool false, .slice none 0 0, .bool false, .slice none 0 0, .bool false, .slice none 0 0, .bool false, .slice none 0 0]) 12 192 Tryz.underlying22 info_it rfl (by omega) (by omega) _ j _ rfl (World.ownsRow.alloc (own_later HOWN.out ((b1.trans b2).trans b3)) _) _ 1 [.bool s1, .slice P1 q1 e1, .bool false, .slice P1' q1' e1', .bool s2, .slice P2 q2 e2, .bool false, .slice P2' q2' e2', .bool s3, .slice P3 q3 e3, .bool false, .slice P3' q3' e3'] rfl ⟨rfl, (by intro u hu; simp at hu; rcases hu with rfl | rfl | rfl | rfl | rfl | rfl | rfl | rfl | rfl | rfl | rfl | rfl <;> rfl), .inr ⟨_, _, rfl, fun jj u hj => by rw [addr_add, Nat.zero_add]; exact (Row.new a3 69 [.bool s1, .slice P1 q1 e1, .bool false, .slice P1' q1' e1', .bool s2, .slice P2 q2 e2, .bool false, .slice P2' q2' e2', .bool s3, .slice P3 q3 e3, .bool false, .slice P3' q3' e3']).cell hj⟩⟩ (by omega) (((HL.out.trans ((b1.trans b2).trans b3)).alloc _).size) ?_); intro v' w5 hown hg hblk; obtain ⟨A6, c6, rfl⟩ := own_form hown; have HO5 := hide hown; have HG5 := hide hg; clear hown hg hblk))
   refine ⟨⟨j+1, A6, j+1, c6, es ++ [((⟨s1, P1, q1, e1, false, P1', q1', e1'⟩, ⟨s2, P2, q2, e2, false, P2', q2', e2'⟩, ⟨s3, P3, q3, e3, false, P3', q3', e3'⟩) : ICells × ICells × ICells)], rfl, by go_num, by omega, by simp [hes], hide ?_, hide (fun e he => ?_), hide ?_⟩, by simp [intOf]; omega⟩
   ·rw [List.flatMap_append]; exact HO5.out
   ·have hla := ((b1.trans b2).trans b3).alloc (Obj.cells #[Value.bool s1, Value.slice P1 q1 e1, Value.bool false, Value.slice P1' q1' e1', Value.bool s2, Value.slice P2 q2 e2, Value.bool false, Value.slice P2' q2' e2', Value.bool s3, Value.slice P3 q3 e3, Value.bool false, Value.slice P3' q3' e3'] 69)
    have hho := World.ownsRow.alloc (own_later HOWN.out ((b1.trans b2).trans b3)) (Obj.cells #[Value.bool s1, Value.slice P1 q1 e1, Value.bool false, Value.slice P1' q1' e1', Value.bool s2, Value.slice P2 q2 e2, Value.bool false, Value.slice P2' q2' e2', Value.bool s3, Value.slice P3 q3 e3, Value.bool false, Value.slice P3' q3' e3'] 69)
    rcases List.mem_append.1 he with h | h
    ·exact ((HIT.out e h).later hla).kept HG5.out hho (by decide)
    ·obtain rfl := List.mem_singleton.1 h
     refine OwnIt.kept (w := a3.alloc (Obj.cells #[Value.bool s1, Value.slice P1 q1 e1, Value.bool false, Value.slice P1' q1' e1', Value.bool s2, Value.slice P2 q2 e2, Value.bool false, Value.slice P2' q2' e2', Value.bool s3, Value.slice P3 q3 e3, Value.bool false, Value.slice P3' q3' e3'] 69)) ?_ HG5.out hho (by decide)
     exact ⟨(O1.out.weaken (Nat.zero_le _)).later ((b2.trans b3).alloc _), (O2.out.weaken (Nat.zero_le _)).later (b3.alloc _), (O3.out.weaken (Nat.zero_le _)).later ((Later.refl _).alloc _)⟩
   ·have hho := World.ownsRow.alloc (own_later HOWN.out ((b1.trans b2).trans b3)) (Obj.cells #[Value.bool s1, Value.slice P1 q1 e1, Value.bool false, Value.slice P1' q1' e1', Value.bool s2, Value.slice P2 q2 e2, Value.bool false, Value.slice P2' q2' e2', Value.bool s3, Value.slice P3 q3 e3, Value.bool false, Value.slice P3' q3' e3'] 69)
    exact ((HL.out.trans ((b1.trans b2).trans b3)).alloc _).grown HG5.out (fun k hk => (World.ownsRow.lt hho k hk).1)
  ·have t1 : decide (j <= N) = false := by simpa using hjn
   have hjj : j = N + 1 := by omega
   have HJ := hide hjj
   clear hjj hjn
   go_wp2_with fail
   go_ret
   refine ⟨_, _, _, rfl, ?_, HL.out⟩
   have h := items_end hes HOWN.out HIT.out
   unfold itemsN
   rw [show (n % 2).toNat + 1 = j by have h1 := HJ.out; have h2 := HN.out; omega]
   exact h
set_option maxHeartbeats 4000000 in
theorem refsame_calls (w : World) (A1 A2 A3 A4 B1 B2 B3 B4 : Option Addr) (n1 n2 n3 n4 c1 c2 c3 c4 m1 m2 m3 m4 d1 d2 d3 d4 : Nat) (D : PBook) (h : BookIn w (.slice A1 n1 c1) (.slice A2 n2 c2) (.slice A3 n3 c3) (.slice A4 n4 c4) D) (h2 : BookIn w (.slice B1 m1 d1) (.slice B2 m2 d2) (.slice B3 m3 d3) (.slice B4 m4 d4) D) :
 Calls Tryz.prog 15 #[.agg #[.slice A1 n1 c1, .int .i64 D.hor, .int .i64 D.now, .slice A2 n2 c2, .slice A3 n3 c3, .slice A4 n4 c4], .agg #[.slice B1 m1 d1, .int .i64 D.hor, .int .i64 D.now, .slice B2 m2 d2, .slice B3 m3 d3, .slice B4 m4 d4]] w (RetV w (.bool true)) := by
 have len : ∀ {α : Type} {m : Nat} {enc : α -> List Value} {A : Option Addr} {n c : Nat} {l : List α}, Sq m enc w (.slice A n c) l -> n = l.length := fun h => by
  obtain ⟨_, _, _, e, e2, -⟩ := h.form
  injection e with _ e3 _; omega
 have leni : ∀ {A : Option Addr} {n c : Nat} {l : List PItem}, Its 12 w (.slice A n c) l -> n = l.length := fun h => by
  obtain ⟨_, _, _, e, e2, -⟩ := h.form
  injection e with _ e3 _; omega
 have a1 := leni h.its; have a2 := len h.caps; have a3 := len h.ords; have a4 := len h.mks
 have b1 := leni h2.its; have b2 := len h2.caps; have b3 := len h2.ords; have b4 := len h2.mks
 obtain rfl : m1 = n1 := by omega
 obtain rfl : m2 = n2 := by omega
 obtain rfl : m3 = n3 := by omega
 obtain rfl : m4 = n4 := by omega
 have q2 : m2 <= 1000 := by have := h.cl; omega
 have q3 : m3 <= 1000 := by have := h.ol; omega
 have q4 : m4 <= 1000 := by have := h.ml; omega
 have HN3 := hide a2; have HN4 := hide a3; have HN5 := hide a4
 have H := hide h; have H2 := hide h2
 clear h h2 a1 a2 a3 a4 b1 b2 b3 b4 len leni
 obtain ⟨W0, hW0⟩ : ∃ W0, W0 = ((w.alloc (Obj.cells #[Value.slice A1 m1 c1, Value.int .i64 D.hor, Value.int .i64 D.now, Value.slice A2 m2 c2, Value.slice A3 m3 c3, Value.slice A4 m4 c4] 27)).alloc (Obj.cells #[Value.slice B1 m1 d1, Value.int .i64 D.hor, Value.int .i64 D.now, Value.slice B2 m2 d2, Value.slice B3 m3 d3, Value.slice B4 m4 d4] 27)) := ⟨_, rfl⟩
 obtain ⟨hb0, r0, r1, hsz0⟩ := boxes2 w [.slice A1 m1 c1, .int .i64 D.hor, .int .i64 D.now, .slice A2 m2 c2, .slice A3 m3 c3, .slice A4 m4 c4] [.slice B1 m1 d1, .int .i64 D.hor, .int .i64 D.now, .slice B2 m2 d2, .slice B3 m3 d3, .slice B4 m4 d4] 27 27 hW0
 have B0 := hide hb0; have HW0 := hide hW0; have HSZ0 := hide hsz0
 have R0 := hide r0; have R1 := hide r1
 clear hb0 hW0 hsz0 r0 r1
 go_enter Tryz.func15, Tryz.ntmps15
 go_upto_region 1 with fail
 rw [<- HW0.out]
 have HLS := hide (Later.refl W0)
 have r_x := R0.out.later (Later.refl W0)
 have x0 := r_x.cell (i := 0) rfl; have x1 := r_x.cell (i := 1) rfl; have x2 := r_x.cell (i := 2) rfl; have x3 := r_x.cell (i := 3) rfl; have x4 := r_x.cell (i := 4) rfl; have x5 := r_x.cell (i := 5) rfl
 clear r_x
 have r_y := R1.out.later (Later.refl W0)
 have y0 := r_y.cell (i := 0) rfl; have y1 := r_y.cell (i := 1) rfl; have y2 := r_y.cell (i := 2) rfl; have y3 := r_y.cell (i := 3) rfl; have y4 := r_y.cell (i := 4) rfl; have y5 := r_y.cell (i := 5) rfl
 clear r_y
 go_wp2_with fail
 clear x0 x1 x2 x3 x4 x5 y0 y1 y2 y3 y4 y5
 go_loopw [5] (fun iv wr => ∃ j : Nat, j <= m2 /\ iv = .int .i64 (j : Int) /\ Hid (Later W0 wr)) (fun iv _ => (m2 - intOf iv).toNat)
 case atStart => exact ⟨0, Nat.zero_le _, rfl, HLS⟩
 case round =>
  obtain ⟨j, hj, rfl, HL⟩ := hrel
  have ra := (R0.out.later HL.out).cell (i := 3) rfl
  have rb := (R1.out.later HL.out).cell (i := 3) rfl
  by_cases hjn : j < m2
  ·obtain ⟨x, hx⟩ : ∃ x, D.caps[j]? = some x := ⟨D.caps[j]'(by have := HN3.out; omega), List.getElem?_eq_getElem _⟩
   obtain ⟨b1, off1, rfl, p0⟩ := (H.out.later (B0.out.trans HL.out)).caps.at1 hx
   obtain ⟨b2, off2, rfl, r0⟩ := (H2.out.later (B0.out.trans HL.out)).caps.at1 hx
   have hj0 : (0 : Int) <= (j : Int) := by omega
   have hj1 : (j : Int) < m2 := by omega
   clear hx
   go_upto_region 6 with fail
   go_quiet (fail)
   all_goals
    go_wp2_with fail
    exact ⟨⟨j+1, by omega, by go_num, hide (HL.out.drewN _)⟩, by simp [intOf]; omega⟩
  ·obtain rfl : m2 = j := by omega
   have HLS := HL
   clear HL
   go_wp2_with fail
   clear ra rb
   go_loopw [6] (fun iv wr => ∃ j : Nat, j <= m3 /\ iv = .int .i64 (j : Int) /\ Hid (Later W0 wr)) (fun iv _ => (m3 - intOf iv).toNat)
   case atStart => exact ⟨0, Nat.zero_le _, rfl, HLS⟩
   case round =>
    obtain ⟨j, hj, rfl, HL⟩ := hrel
    have ra := (R0.out.later HL.out).cell (i := 4) rfl
    have rb := (R1.out.later HL.out).cell (i := 4) rfl
    by_cases hjn : j < m3
    ·obtain ⟨x, hx⟩ : ∃ x, D.ords[j]? = some x := ⟨D.ords[j]'(by have := HN4.out; omega), List.getElem?_eq_getElem _⟩
     obtain ⟨b1, off1, rfl, p0, p1, p2, p3⟩ := (H.out.later (B0.out.trans HL.out)).ords.at4 hx
     obtain ⟨b2, off2, rfl, r0, r1, r2, r3⟩ := (H2.out.later (B0.out.trans HL.out)).ords.at4 hx
     have hj0 : (0 : Int) <= (j : Int) := by omega
     have hj1 : (j : Int) < m3 := by omega
     clear hx
     go_upto_region 11 with fail
     go_quiet (fail)
     all_goals
      go_wp2_with fail
      exact ⟨⟨j+1, by omega, by go_num, hide (HL.out.drewN _)⟩, by simp [intOf]; omega⟩
    ·obtain rfl : m3 = j := by omega
     have HLS := HL
     clear HL
     go_wp2_with fail
     clear ra rb
     go_loopw [7] (fun iv wr => ∃ j : Nat, j <= m4 /\ iv = .int .i64 (j : Int) /\ Hid (Later W0 wr)) (fun iv _ => (m4 - intOf iv).toNat)
     case atStart => exact ⟨0, Nat.zero_le _, rfl, HLS⟩
     case round =>
      obtain ⟨j, hj, rfl, HL⟩ := hrel
      have ra := (R0.out.later HL.out).cell (i := 5) rfl
      have rb := (R1.out.later HL.out).cell (i := 5) rfl
      by_cases hjn : j < m4
      ·obtain ⟨x, hx⟩ : ∃ x, D.mks[j]? = some x := ⟨D.mks[j]'(by have := HN5.out; omega), List.getElem?_eq_getElem _⟩
       obtain ⟨b1, off1, rfl, p0, p1, p2⟩ := (H.out.later (B0.out.trans HL.out)).mks.at3 hx
       obtain ⟨b2, off2, rfl, r0, r1, r2⟩ := (H2.out.later (B0.out.trans HL.out)).mks.at3 hx
       have hj0 : (0 : Int) <= (j : Int) := by omega
       have hj1 : (j : Int) < m4 := by omega
       clear hx
       go_upto_region 16 with fail
       go_quiet (fail)
       all_goals
        go_wp2_with fail
        exact ⟨⟨j+1, by omega, by go_num, hide (HL.out.drewN _)⟩, by simp [intOf]; omega⟩
      ·obtain rfl : m4 = j := by omega
       have HLS := HL
       clear HL
       go_wp2_with fail
       go_ret
       exact ⟨rfl, B0.out.trans HLS.out⟩
set_option maxHeartbeats 1000000 in
theorem rows01_calls (w : World) (v v2 : Value) (l : List Int) (h : Sq 1 uCells w v l) (h2 : Sq 1 uCells w v2 l) (hl : l.length <= 1000000) :
 Calls Tryz.prog 22 #[v, v2] w (RetV w (.bool true)) := by
 obtain ⟨A0, nt, ct, rfl, hnt, -, -, hA⟩ := h.form
 obtain ⟨B0, nt2, ct2, rfl, hnt2, -, -, hB⟩ := h2.form
 obtain rfl : nt2 = nt := by omega
 have HNT := hide hnt; have H := hide hA; have H2 := hide hB
 have hn9 : nt2 <= 1000000 := by omega
 clear h h2 hA hB hnt hnt2 hl
 go_enter Tryz.func22, Tryz.ntmps22
 go_wp2_with fail
 go_loopw [5] (fun i wr => ∃ j : Nat, j <= nt2 /\ i = .int .i64 (j : Int) /\ Later w wr) (fun i _ => (nt2 - intOf i).toNat)
 case atStart => exact ⟨0, by omega, rfl, Later.refl w⟩
 case round =>
  obtain ⟨j, hj, rfl, hL⟩ := hrel
  by_cases hjn : j < nt2
  ·obtain ⟨x, hx⟩ : ∃ x, l[j]? = some x := ⟨l[j]'(by have := HNT.out; omega), List.getElem?_eq_getElem _⟩
   obtain ⟨b1, off1, rfl, hx1⟩ := (H.out.later hL).at_ hx
   obtain ⟨b2, off2, rfl, hx2⟩ := (H2.out.later hL).at_ hx
   have x1 := hx1 0 _ rfl; have x2 := hx2 0 _ rfl
   rw [Nat.mul_one, Nat.add_zero] at x1 x2
   have hj0 : (0 : Int) <= (j : Int) := by omega
   have hj1 : (j : Int) < nt2 := by omega
   clear hx hx1 hx2
   go_upto_region 6 with fail
   go_quiet (fail)
   all_goals
    go_wp2_with fail
    exact ⟨⟨j+1, by omega, by go_num, hL.drewN _⟩, by simp [intOf]; omega⟩
  ·obtain rfl : nt2 = j := by omega
   go_wp2_with fail
   go_ret
   exact ⟨rfl, hL⟩
end Go.Proofs.YtncbebfhakcgdaaGreat
namespace Go.Proofs.YtncbebfhakcgdaaGreat
open Go.RowKit Go.Shelf
attribute [local go_sem ↓] Go.wp_at_zero Go.wp_at_succ
theorem perE_free {D : PBook} {p : Int} (h1 : 0 <= p /\ p <= 39) (h2 : D.now <= p) (h3 : D.mks = []) : perE D p = 0 := by
 unfold perE
 rw [if_neg (by omega), if_neg (by omega), h3, if_neg (by simp)]
theorem itm_may (n : Nat) (h1 : 1 <= n) (h2 : n <= 2) : MayP (newD (List.replicate n itm) 2) := by
 refine newD_may ⟨fun x hx => ?_, (fun c hc => by simp [newD] at hc), ?_, ?_, by show (1 : Int) <= 2; omega, ?_, by show (0 : Int) <= 0; omega, by show (0 : Int) <= 40; omega, by simp [newD]⟩
 ·have h := (List.mem_replicate.1 hx).2
  subst h
  unfold PItem.okB costB itm; decide +kernel
 ·show 1 <= (List.replicate n itm).length; rw [List.length_replicate]; exact h1
 ·show (List.replicate n itm).length <= 3; rw [List.length_replicate]; omega
 ·show (2 : Int) * ((List.replicate n itm).length : Int) <= 6; rw [List.length_replicate]; omega
theorem items0 : itemsN 0 = [itm] := rfl
theorem new_items (n : Int) : newV (itemsN n) 2 = .ok (newD (itemsN n) 2) := by
 unfold newV itemsN
 rw [if_pos (mayB_iff.2 (itm_may _ (by omega) (by omega)))]
theorem awake_facts : ∃ D1 D2 D3 : PBook, newV (itemsN 0) 2 = .ok D1 /\ applyV D1 (mkCap 0 2) = .ok D2 /\ applyV D2 (mkCom 0 [3]) = .error 10 /\ applyV D2 (mkCom 0 [2]) = .ok D3 /\ StoB D3 /\ D3.mks.length = 1 /\ (tellV D3).length = 2 := by
 have h1 : MayP (newD [itm] 2) := itm_may 1 (by omega) (by omega)
 have e1 : applyV (newD [itm] 2) (mkCap 0 2) = .ok ⟨[itm], 2, 0, [2], [], []⟩ := by
  rw [apply_cap h1]; unfold capS
  rw [if_neg (by omega), if_neg (by rw [perE_free (by omega) (by show (0 : Int) <= 0; omega) rfl]; simp)]; rfl
 have h2 := apply_may e1
 have hc : capV ⟨[itm], 2, 0, [2], [], []⟩ 0 = 2 := by rw [capV_may h2, if_pos (by omega)]; rfl
 have hp : perE ⟨[itm], 2, 0, [2], [], []⟩ 0 = 0 := perE_free (by omega) (by show (0 : Int) <= 0; omega) rfl
 have e2 : applyV ⟨[itm], 2, 0, [2], [], []⟩ (mkCom 0 [3]) = .error 10 := by
  rw [apply_com h2]; unfold comV
  rw [if_neg (by simp), if_neg (by decide), if_neg (by rw [hp]; simp), hc, if_pos (by decide)]
 have e3 : applyV ⟨[itm], 2, 0, [2], [], []⟩ (mkCom 0 [2]) = .ok ⟨[itm], 2, 0, [2], [], [⟨0, 0, 2⟩]⟩ := by
  rw [apply_com h2]; unfold comV
  rw [if_neg (by simp), if_neg (by decide), if_neg (by rw [hp]; simp), hc, if_neg (by decide)]; rfl
 exact ⟨_, _, _, new_items 0, e1, e2, e3, ((whole_new h1.head).apply e1).apply e3, rfl, by decide +kernel⟩
theorem enc258 : encV (mkCan 258) = some [2, 2, 1, 0, 0] := by decide +kernel
theorem dec258 : decV [2, 2, 1, 0, 0] = some (mkCan 258) := enc_dec enc258
theorem new_none : newV [] 2 = .error 1 := by
 unfold newV
 rw [if_neg]
 intro h
 have := (mayB_iff.1 h).head.n1
 simp [newD] at this
theorem fit0 : POrd.fit ⟨0, 0, 0, 0⟩ := ⟨ifit0, ifit0, ifit0, ifit0⟩
theorem sq_one {w : World} {g : Nat} {T : TypeId} {x : Int} (hr : Row w g T [.int .i64 x]) : Sq 1 iCells w (.slice (some ⟨g, 0, none⟩) 1 1) [x] := by
 refine ⟨_, 1, rfl, Nat.le_refl _, by decide, fun i q hi => ?_⟩
 match i, hi with
 | 0, hi => simp at hi; subst hi; exact ⟨g, 0, rfl, fun j u hj => hr.cell (by rw [show 0 + 0 * 1 + j = j by omega]; exact hj)⟩
 | i + 1, hi => simp at hi
set_option maxHeartbeats 4000000 in
theorem awake20_calls (w : World)  :
 Calls Tryz.prog 9 #[] w (RetV w (.bool true)) := by
 obtain ⟨D1, D2, D3, E1, E2, E3, E4, hst, hml, htl⟩ := awake_facts
 have HE1 := hide E1; have HE2 := hide E2; have HE3 := hide E3; have HE4 := hide E4; have HST := hide hst; have HML := hide hml; have HTL := hide htl
 clear E1 E2 E3 E4 hst hml htl
 have HN1 : Hid (∀ W A n c, Its 12 W (.slice A n c) (itemsN 0) -> Calls Tryz.prog 14 #[.slice A n c, .int .i64 2] W (CauP W (.ok D1))) := hide (fun W A n c hI => by
  have h2 := new_calls W A n c (itemsN 0) 2 hI (by rw [items0]; simp) (by unfold IFit; omega)
  rw [HE1.out] at h2; exact h2)
 have HN2 : Hid (∀ W, Calls Tryz.prog 14 #[.slice none 0 0, .int .i64 2] W (CauP W (.error 1))) := hide (fun W => by
  have h2 := new_calls W none 0 0 [] 2 ⟨none, 0, rfl, by simp, by decide, fun i x hi => by simp at hi⟩ (by simp) (by unfold IFit; omega)
  rw [new_none] at h2; exact h2)
 go_enter Tryz.func9, Tryz.ntmps9
 go_upto_region 2 with (first | (go_at_call 24; (with_reducible refine (items20_calls _ 0 (by omega)).mono ?_); rintro e a0 ⟨A0, n0, c0, rfl, hi0, b0⟩) | (go_at_call 14; (refine (HN1.out _ _ _ _ hi0).mono ?_); rintro e a1 h1; unfold CauP at h1; dsimp only at h1; obtain ⟨b1, hm1, B1a, B2a, B3a, B4a, m1a, m2a, m3a, m4a, d1a, d2a, d3a, d4a, rfl, hk1⟩ := h1))
 obtain ⟨W1, hW1⟩ : ∃ W1, W1 = a1.alloc (Obj.cells #[Value.slice B1a m1a d1a, Value.int .i64 D1.hor, Value.int .i64 D1.now, Value.slice B2a m2a d2a, Value.slice B3a m3a d3a, Value.slice B4a m4a d4a] 27) := ⟨_, rfl⟩
 obtain ⟨g1, hg1⟩ : ∃ g1, g1 = a1.heap.size := ⟨_, rfl⟩
 have bW1 : Later a1 W1 := by rw [hW1]; exact (Later.refl _).alloc _
 have rg1 : Row W1 g1 27 [.slice B1a m1a d1a, .int .i64 D1.hor, .int .i64 D1.now, .slice B2a m2a d2a, .slice B3a m3a d3a, .slice B4a m4a d4a] := by rw [hW1, hg1]; exact Row.new _ _ _
 rw [<- hW1, <- hg1]
 have L1 := hide (b0.trans (b1.trans bW1)); have RB := hide rg1; have KB := hide ((hk1.weaken b0.size).later bW1); have MB := hide hm1
 clear hW1 hg1 b0 b1 bW1 rg1 hk1 hm1 hi0
 go_upto_region 3 with (go_at_call 14; (refine (HN2.out _).mono ?_); rintro e a2 ⟨b2, rfl⟩)
 obtain ⟨W2, hW2⟩ : ∃ W, W = a2.alloc (Obj.cells #[Value.slice none 0 0, Value.int .i64 0, Value.int .i64 0, Value.slice none 0 0, Value.slice none 0 0, Value.slice none 0 0] 27) := ⟨_, rfl⟩
 have l12 : Later W1 W2 := by rw [hW2]; exact b2.alloc _
 rw [<- hW2]
 have L12 := hide l12
 clear hW2 b2 l12
 have x := RB.out.later L12.out
 have x0 := x.cell (i := 0) rfl; have x1 := x.cell (i := 1) rfl; have x2 := x.cell (i := 2) rfl; have x3 := x.cell (i := 3) rfl; have x4 := x.cell (i := 4) rfl; have x5 := x.cell (i := 5) rfl
 clear x
 have HA3 : Hid (∀ W, BookIn W (.slice B1a m1a d1a) (.slice B2a m2a d2a) (.slice B3a m3a d3a) (.slice B4a m4a d4a) D1 -> Sq 1 iCells W (.slice none 0 0) [] -> Calls Tryz.prog 12 #[.agg #[.slice B1a m1a d1a, .int .i64 D1.hor, .int .i64 D1.now, .slice B2a m2a d2a, .slice B3a m3a d3a, .slice B4a m4a d4a], .agg #[.int .i64 3, .int .i64 0, .int .i64 0, .int .i64 0, .int .i64 0, .int .i64 0, .int .i64 0, .int .i64 2, .slice none 0 0]] W (CauP W (.ok D2))) := hide (fun W hB hQ => by
  have h2 := apply_calls W B1a B2a B3a B4a none m1a m2a m3a m4a 0 d1a d2a d3a d4a 0 D1 (mkCap 0 2) hB fit0 hQ (by decide)
  rw [HE2.out] at h2; exact h2)
 go_upto_region 4 with (go_at_call 12; (refine (HA3.out _ ((KB.out.later L12.out).book (fit_of_may MB.out)) (Sq.nil _ _ _)).mono ?_); rintro e a3 h1; unfold CauP at h1; dsimp only at h1; obtain ⟨b3, hm3, B1c, B2c, B3c, B4c, m1c, m2c, m3c, m4c, d1c, d2c, d3c, d4c, rfl, hk3⟩ := h1)
 obtain ⟨W3, hW3⟩ : ∃ W3, W3 = a3.alloc (Obj.cells #[Value.slice B1c m1c d1c, Value.int .i64 D2.hor, Value.int .i64 D2.now, Value.slice B2c m2c d2c, Value.slice B3c m3c d3c, Value.slice B4c m4c d4c] 27) := ⟨_, rfl⟩
 obtain ⟨g3, hg3⟩ : ∃ g3, g3 = a3.heap.size := ⟨_, rfl⟩
 have bW3 : Later a3 W3 := by rw [hW3]; exact (Later.refl _).alloc _
 have rg3 : Row W3 g3 27 [.slice B1c m1c d1c, .int .i64 D2.hor, .int .i64 D2.now, .slice B2c m2c d2c, .slice B3c m3c d3c, .slice B4c m4c d4c] := by rw [hW3, hg3]; exact Row.new _ _ _
 rw [<- hW3, <- hg3]
 have L3' := hide (b3.trans bW3); have RC := hide rg3; have KC := hide ((hk3.weaken ((L1.out.trans L12.out).size)).later bW3); have MC := hide hm3
 clear hW3 hg3 b3 bW3 rg3 hk3 hm3 x0 x1 x2 x3 x4 x5
 have x0 := RC.out.cell (i := 0) rfl; have x1 := RC.out.cell (i := 1) rfl; have x2 := RC.out.cell (i := 2) rfl; have x3 := RC.out.cell (i := 3) rfl; have x4 := RC.out.cell (i := 4) rfl; have x5 := RC.out.cell (i := 5) rfl
 have LA4 : Later W3 (W3.alloc (Obj.cells #[Value.int .i64 3] 3)) := (Later.refl _).alloc _
 have SQ4 : Sq 1 iCells (W3.alloc (Obj.cells #[Value.int .i64 3] 3)) (.slice (some ⟨W3.heap.size, 0, none⟩) 1 1) [3] := sq_one (Row.new W3 3 [.int .i64 3])
 have y0 := (RC.out.later LA4).cell (i := 0) rfl; have y1 := (RC.out.later LA4).cell (i := 1) rfl; have y2 := (RC.out.later LA4).cell (i := 2) rfl; have y3 := (RC.out.later LA4).cell (i := 3) rfl; have y4 := (RC.out.later LA4).cell (i := 4) rfl; have y5 := (RC.out.later LA4).cell (i := 5) rfl
 have HA4 : Hid (∀ W, BookIn W (.slice B1c m1c d1c) (.slice B2c m2c d2c) (.slice B3c m3c d3c) (.slice B4c m4c d4c) D2 -> Sq 1 iCells W (.slice (some ⟨W3.heap.size, 0, none⟩) 1 1) [3] -> Calls Tryz.prog 12 #[.agg #[.slice B1c m1c d1c, .int .i64 D2.hor, .int .i64 D2.now, .slice B2c m2c d2c, .slice B3c m3c d3c, .slice B4c m4c d4c], .agg #[.int .i64 5, .int .i64 0, .int .i64 0, .int .i64 0, .int .i64 0, .int .i64 0, .int .i64 0, .int .i64 0, .slice (some ⟨W3.heap.size, 0, none⟩) 1 1]] W (CauP W (.error 10))) := hide (fun W hB hQ => by
  have h2 := apply_calls W B1c B2c B3c B4c (some ⟨W3.heap.size, 0, none⟩) m1c m2c m3c m4c 1 d1c d2c d3c d4c 1 D2 (mkCom 0 [3]) hB fit0 hQ (by decide)
  rw [HE3.out] at h2; exact h2)
 have HQ4 := hide SQ4; have HLA4 := hide LA4
 clear SQ4 LA4
 go_upto_region 5 with (go_at_call 12; (refine (HA4.out _ ((KC.out.later HLA4.out).book (fit_of_may MC.out)) HQ4.out).mono ?_); rintro e a4 ⟨b4, rfl⟩)
 obtain ⟨W4, hW4⟩ : ∃ W4, W4 = a4.alloc (Obj.cells #[Value.slice none 0 0, Value.int .i64 0, Value.int .i64 0, Value.slice none 0 0, Value.slice none 0 0, Value.slice none 0 0] 27) := ⟨_, rfl⟩
 obtain ⟨g4, hg4⟩ : ∃ g4, g4 = a4.heap.size := ⟨_, rfl⟩
 have bW4 : Later a4 W4 := by rw [hW4]; exact (Later.refl _).alloc _
 have rg4 : Row W4 g4 27 [.slice none 0 0, .int .i64 0, .int .i64 0, .slice none 0 0, .slice none 0 0, .slice none 0 0] := by rw [hW4, hg4]; exact Row.new _ _ _
 rw [<- hW4, <- hg4]
 have L34 := hide (HLA4.out.trans (b4.trans bW4))
 clear hW4 hg4 bW4 rg4 b4 x0 x1 x2 x3 x4 x5 y0 y1 y2 y3 y4 y5
 have rc4 := RC.out.later L34.out
 have x0 := rc4.cell (i := 0) rfl; have x1 := rc4.cell (i := 1) rfl; have x2 := rc4.cell (i := 2) rfl; have x3 := rc4.cell (i := 3) rfl; have x4 := rc4.cell (i := 4) rfl; have x5 := rc4.cell (i := 5) rfl
 have LA5 : Later W4 (W4.alloc (Obj.cells #[Value.int .i64 2] 3)) := (Later.refl _).alloc _
 have SQ5 : Sq 1 iCells (W4.alloc (Obj.cells #[Value.int .i64 2] 3)) (.slice (some ⟨W4.heap.size, 0, none⟩) 1 1) [2] := sq_one (Row.new W4 3 [.int .i64 2])
 have y0 := (rc4.later LA5).cell (i := 0) rfl; have y1 := (rc4.later LA5).cell (i := 1) rfl; have y2 := (rc4.later LA5).cell (i := 2) rfl; have y3 := (rc4.later LA5).cell (i := 3) rfl; have y4 := (rc4.later LA5).cell (i := 4) rfl; have y5 := (rc4.later LA5).cell (i := 5) rfl
 have HA5 : Hid (∀ W, BookIn W (.slice B1c m1c d1c) (.slice B2c m2c d2c) (.slice B3c m3c d3c) (.slice B4c m4c d4c) D2 -> Sq 1 iCells W (.slice (some ⟨W4.heap.size, 0, none⟩) 1 1) [2] -> Calls Tryz.prog 12 #[.agg #[.slice B1c m1c d1c, .int .i64 D2.hor, .int .i64 D2.now, .slice B2c m2c d2c, .slice B3c m3c d3c, .slice B4c m4c d4c], .agg #[.int .i64 5, .int .i64 0, .int .i64 0, .int .i64 0, .int .i64 0, .int .i64 0, .int .i64 0, .int .i64 0, .slice (some ⟨W4.heap.size, 0, none⟩) 1 1]] W (CauP W (.ok D3))) := hide (fun W hB hQ => by
  have h2 := apply_calls W B1c B2c B3c B4c (some ⟨W4.heap.size, 0, none⟩) m1c m2c m3c m4c 1 d1c d2c d3c d4c 1 D2 (mkCom 0 [2]) hB fit0 hQ (by decide)
  rw [HE4.out] at h2; exact h2)
 have HQ5 := hide SQ5; have HLA5 := hide LA5
 clear SQ5 LA5 rc4
 go_upto_region 6 with (go_at_call 12; (refine (HA5.out _ ((KC.out.later (L34.out.trans HLA5.out)).book (fit_of_may MC.out)) HQ5.out).mono ?_); rintro e a5 h1; unfold CauP at h1; dsimp only at h1; obtain ⟨b5, hm5, B1e, B2e, B3e, B4e, m1e, m2e, m3e, m4e, d1e, d2e, d3e, d4e, rfl, hk5⟩ := h1)
 obtain ⟨W5, hW5⟩ : ∃ W5, W5 = a5.alloc (Obj.cells #[Value.slice B1e m1e d1e, Value.int .i64 D3.hor, Value.int .i64 D3.now, Value.slice B2e m2e d2e, Value.slice B3e m3e d3e, Value.slice B4e m4e d4e] 27) := ⟨_, rfl⟩
 obtain ⟨g5, hg5⟩ : ∃ g5, g5 = a5.heap.size := ⟨_, rfl⟩
 have bW5 : Later a5 W5 := by rw [hW5]; exact (Later.refl _).alloc _
 have rg5 : Row W5 g5 27 [.slice B1e m1e d1e, .int .i64 D3.hor, .int .i64 D3.now, .slice B2e m2e d2e, .slice B3e m3e d3e, .slice B4e m4e d4e] := by rw [hW5, hg5]; exact Row.new _ _ _
 rw [<- hW5, <- hg5]
 have hme : m4e = 1 := by rw [<- HML.out]; exact (own_len3 hk5.mks).1
 subst hme
 have L35 := hide ((L34.out.trans HLA5.out).trans (b5.trans bW5)); have RD := hide rg5; have KD := hide (hk5.later bW5); have MD := hide hm5
 clear hW5 hg5 b5 bW5 rg5 hk5 hm5 x0 x1 x2 x3 x4 x5 y0 y1 y2 y3 y4 y5
 have x0 := RD.out.cell (i := 0) rfl; have x1 := RD.out.cell (i := 1) rfl; have x2 := RD.out.cell (i := 2) rfl; have x3 := RD.out.cell (i := 3) rfl; have x4 := RD.out.cell (i := 4) rfl; have x5 := RD.out.cell (i := 5) rfl
 go_upto_region 7 with (go_at_call 25; (refine (story_calls _ B1e B2e B3e B4e m1e m2e m3e 1 d1e d2e d3e d4e D3 HST.out (KD.out.book (fit_of_may MD.out))).mono ?_); rintro e a6 h6; unfold StoryP at h6; obtain ⟨A6, n6, c6, rfl, ho6, b6⟩ := h6; obtain ⟨_, _, _, ee, e2, -⟩ := ho6.ops.form; injection ee with _ e3 _; rw [<- e3, HTL.out] at e2; subst e2; clear e3 ho6)
 have L6 := hide b6
 have HEN : Hid (∀ W, Calls Tryz.prog 18 #[.agg #[.int .i64 2, .int .i64 0, .int .i64 0, .int .i64 0, .int .i64 0, .int .i64 258, .int .i64 0, .int .i64 0, .slice none 0 0]] W (EncP W (some [2, 2, 1, 0, 0]))) := hide (fun W => by
  have h2 := encode_calls W none 0 0 (mkCan 258) (Sq.nil _ _ _) (fun _ => rfl) (by decide)
  rw [enc258] at h2; exact h2)
 clear b6 x0 x1 x2 x3 x4 x5
 go_upto_region 8 with (go_at_call 18; (refine (HEN.out _).mono ?_); rintro e a7 h7; unfold EncP at h7; obtain ⟨b7, A7, n7, c7, rfl, ho7⟩ := h7; have hn7 := (own_len3 ho7).1; change n7 = 5 at hn7; subst hn7)
 have HSX := hide (Sq.of_own uCells_len ho7)
 have L7 := hide b7
 clear ho7 b7
 have HDE : Hid (∀ W, Sq 1 uCells W (.slice A7 5 c7) [2, 2, 1, 0, 0] -> Calls Tryz.prog 20 #[.slice A7 5 c7] W (fun e w' => Later W w' /\ ∃ A n c, e = .returned (.tuple #[.agg #[.int .i64 2, .int .i64 0, .int .i64 0, .int .i64 0, .int .i64 0, .int .i64 258, .int .i64 0, .int .i64 0, .slice A n c], .int .i64 0]))) := hide (fun W hW => by
  have h2 := decode_calls W A7 5 c7 [2, 2, 1, 0, 0] hW (by intro x hx; simp at hx; omega)
  rw [dec258] at h2
  refine h2.mono ?_
  rintro e w' ⟨h1, A, n, c, rfl, -⟩
  exact ⟨h1, A, n, c, rfl⟩)
 go_upto_region 9 with (go_at_call 20; (refine (HDE.out _ HSX.out).mono ?_); rintro e a8 ⟨b8, A8, n8, c8, rfl⟩)
 obtain ⟨W8, hW8⟩ : ∃ W8, W8 = a8.alloc (Obj.cells #[Value.int .i64 2, Value.int .i64 0, Value.int .i64 0, Value.int .i64 0, Value.int .i64 0, Value.int .i64 258, Value.int .i64 0, Value.int .i64 0, Value.slice A8 n8 c8] 31) := ⟨_, rfl⟩
 obtain ⟨g8, hg8⟩ : ∃ g8, g8 = a8.heap.size := ⟨_, rfl⟩
 have bW8 : Later a8 W8 := by rw [hW8]; exact (Later.refl _).alloc _
 have rg8 : Row W8 g8 31 [.int .i64 2, .int .i64 0, .int .i64 0, .int .i64 0, .int .i64 0, .int .i64 258, .int .i64 0, .int .i64 0, .slice A8 n8 c8] := by rw [hW8, hg8]; exact Row.new _ _ _
 rw [<- hW8, <- hg8]
 have L8 := hide (b8.trans bW8); have RO := hide rg8
 clear hW8 hg8 b8 bW8 rg8
 have rd8 := RD.out.later (L6.out.trans (L7.out.trans L8.out))
 have x0 := rd8.cell (i := 0) rfl; have x1 := rd8.cell (i := 1) rfl; have x2 := rd8.cell (i := 2) rfl; have x3 := rd8.cell (i := 3) rfl; have x4 := rd8.cell (i := 4) rfl; have x5 := rd8.cell (i := 5) rfl
 clear rd8
 have HSY : Hid (Sq 1 uCells (W8.alloc (Obj.cells #[Value.int .u8 2, Value.int .u8 2, Value.int .u8 1, Value.int .u8 0, Value.int .u8 0] 5)) (.slice (some ⟨W8.heap.size, 0, none⟩) 5 5) [2, 2, 1, 0, 0]) := hide (Sq.of_own uCells_len (World.ownsRow_lit W8 #[Value.int .u8 2, Value.int .u8 2, Value.int .u8 1, Value.int .u8 0, Value.int .u8 0] (e := 5) (size := 1) (base := W8.heap.size) 5 (Nat.le_refl _) (by decide) rfl))
 go_wp2_with (go_at_call 22; (refine (rows01_calls _ _ _ [2, 2, 1, 0, 0] (HSX.out.later (L8.out.alloc _)) HSY.out (by decide)).mono ?_); rintro e a9 ⟨rfl, b9⟩; have y5 := (RO.out.later (((Later.refl _).alloc _).trans b9)).cell (i := 5) rfl)
 go_ret
 exact ⟨rfl, (L1.out.trans (L12.out.trans (L3'.out.trans (L35.out.trans (L6.out.trans (L7.out.trans (L8.out.alloc _))))))).trans b9⟩
end Go.Proofs.YtncbebfhakcgdaaGreat
namespace Go.Proofs.YtncbebfhakcgdaaGreat
open Go.RowKit Go.Shelf
attribute [local go_sem ↓] Go.wp_at_zero Go.wp_at_succ
theorem apply_err {D : PBook} {o : POp} {c : Int} (h : applyV D o = .error c) : c ≠ 0 := by
 unfold applyV ordV canV capS comV advV at h
 repeat' (first | (cases h; done) | (injection h with h; subst h; first | decide | assumption) | split at h)
def BkAt (lo : Nat) (w : World) (g : Nat) (D : PBook) : Prop := ∃ B1  B2  B3  B4  m1  m2  m3  m4  d1  d2  d3  d4, Row w g 27 [.slice B1 m1 d1, .int .i64 D.hor, .int .i64 D.now, .slice B2 m2 d2, .slice B3 m3 d3, .slice B4 m4 d4] /\ BkN lo w (.slice B1 m1 d1) (.slice B2 m2 d2) (.slice B3 m3 d3) (.slice B4 m4 d4) D
theorem BkAt.later {lo : Nat} {w w' : World} {g : Nat} {D : PBook} (h : BkAt lo w g D) (hb : Later w w') : BkAt lo w' g D := by
 obtain ⟨B1, B2, B3, B4, m1, m2, m3, m4, d1, d2, d3, d4, h1, h2⟩ := h
 exact ⟨B1, B2, B3, B4, m1, m2, m3, m4, d1, d2, d3, d4, h1.later hb, h2.later hb⟩
theorem BkAt.new {lo : Nat} {w : World} {D : PBook} {B1  B2  B3  B4 : Option Addr} {m1 m2  m3  m4  d1  d2  d3  d4 : Nat} (h : BkN lo w (.slice B1 m1 d1) (.slice B2 m2 d2) (.slice B3 m3 d3) (.slice B4 m4 d4) D) : BkAt lo (w.alloc (Obj.cells #[Value.slice B1 m1 d1, Value.int .i64 D.hor, Value.int .i64 D.now, Value.slice B2 m2 d2, Value.slice B3 m3 d3, Value.slice B4 m4 d4] 27)) w.heap.size D :=
 ⟨B1, B2, B3, B4, m1, m2, m3, m4, d1, d2, d3, d4, Row.new _ _ _, h.later ((Later.refl _).alloc _)⟩
theorem BkAt.put {lo lo' : Nat} {w : World} {g : Nat} {D : PBook} {cs : List Value} {B1  B2  B3  B4 : Option Addr} {m1 m2  m3  m4  d1  d2  d3  d4 : Nat} {v0 v1 v2 v3 v4 v5 : Value} (hb : IsBox w g) (hr : Row w g 27 [v0, v1, v2, v3, v4, v5]) (h : BkN lo w (.slice B1 m1 d1) (.slice B2 m2 d2) (.slice B3 m3 d3) (.slice B4 m4 d4) D) : BkAt lo ((((((w.setCell ⟨g, 0, none⟩ (.slice B1 m1 d1)).setCell ⟨g, 1, none⟩ (.int .i64 D.hor)).setCell ⟨g, 2, none⟩ (.int .i64 D.now)).setCell ⟨g, 3, none⟩ (.slice B2 m2 d2)).setCell ⟨g, 4, none⟩ (.slice B3 m3 d3)).setCell ⟨g, 5, none⟩ (.slice B4 m4 d4)) g D := by
 have oo := only6 (W := w) g (.slice B1 m1 d1) (.int .i64 D.hor) (.int .i64 D.now) (.slice B2 m2 d2) (.slice B3 m3 d3) (.slice B4 m4 d4)
 exact ⟨B1, B2, B3, B4, m1, m2, m3, m4, d1, d2, d3, d4, hr.put6 _ _ _ _ _ _, h.box hb oo⟩
theorem FroP.now {D : PBook} (h : FroP D) : 0 <= D.now /\ D.now <= 40 := ⟨h.may.head.t0, h.may.head.t40⟩
end Go.Proofs.YtncbebfhakcgdaaGreat
namespace Go.Proofs.YtncbebfhakcgdaaGreat
open Go.RowKit Go.Shelf Go.ChangeShapes Go.WideShapes Go.Deep
section
variable {H : Type} {enc : TypeId × Value -> H} {w : World} {base : Nat} {spare : Nat -> Bool} {held : Bool}
theorem cellsOp : Tryz.prog.cellsOf 31 = 9 := by kernel_rfl
theorem is_nil {fuel : Nat} {n c : Nat} {y : DataW H × List MemPlace} (h : DataW.trod enc Tryz.prog w base spare held fuel 23 [.slice none n c] = some y) : c = 0 := by
 rcases open_ints Tryz.underlying23 Tryz.underlying3 cellsII h with ⟨e, -⟩ | ⟨a, n', c', zs, e, -⟩
 ·simp at e; exact e.2
 ·simp at e
def OpOk (w : World) (p : QS × POp) : Prop := Sq 1 iCells w (.slice p.1.A p.1.n p.1.c) p.2.qtys /\ p.2.ord.fit /\ (p.1.A = none -> p.1.c = 0) /\ IFit p.2.kind /\ IFit p.2.id /\ IFit p.2.period /\ IFit p.2.qty /\ ∀ z ∈ p.2.qtys, IFit z
instance : Inhabited (QS × POp) := ⟨⟨⟨none, 0, 0⟩, ⟨0, ⟨0, 0, 0, 0⟩, 0, 0, 0, []⟩⟩⟩
theorem op_open {fuel : Nat} {cs : List Value} {y : DataW H × List MemPlace} (h : DataW.trod enc Tryz.prog w base spare held fuel 31 cs = some y) : ∃ p : QS × POp, cs = opCells p /\ OpOk w p := by
 obtain ⟨xs, m, -, -, hlen, hxl, hx⟩ := DataW.trod_struct Tryz.underlying31 h
 have h0 := hx 0 _ rfl; have h1 := hx 1 _ rfl; have h2 := hx 2 _ rfl; have h3 := hx 3 _ rfl; have h4 := hx 4 _ rfl; have h5 := hx 5 _ rfl
 rw [cellsOp] at hlen
 match cs, hlen, xs, hxl with
 | [c0, c1, c2, c3, c4, c5, c6, c7, c8], _, [y0, y1, y2, y3, y4, y5], _ =>
   simp only [List.getElem_toArray, List.getElem_cons_zero, List.getElem_cons_succ, List.getElem?_cons_zero, List.getElem?_cons_succ, cellsII, cellsOrder, cellsIIs, List.drop_zero, List.drop_succ_cons, List.take_succ_cons, List.take_zero] at h0 h1 h2 h3 h4 h5
   obtain ⟨k0, e0, -, f0⟩ := DataW.trod_int Tryz.underlying3 h0
   obtain ⟨o, e1, f1⟩ := ord_open h1
   obtain ⟨k2, e2, -, f2⟩ := DataW.trod_int Tryz.underlying3 h2
   obtain ⟨k3, e3, -, f3⟩ := DataW.trod_int Tryz.underlying3 h3
   obtain ⟨k4, e4, -, f4⟩ := DataW.trod_int Tryz.underlying3 h4
   obtain ⟨A5, n5, d5, qs, e5, g5, f5⟩ := is_open h5
   simp [oCells] at e0 e1 e2 e3 e4 e5
   obtain ⟨rfl, rfl, rfl, rfl⟩ := e1
   subst e0 e2 e3 e4 e5
   exact ⟨⟨⟨A5, n5, d5⟩, ⟨k0, o, k2, k3, k4, qs⟩⟩, rfl, g5, f1, (fun e => by
    have e' : A5 = none := e
    subst e'; exact is_nil h5), wf_fit f0, wf_fit f2, wf_fit f3, wf_fit f4, f5⟩
end
end Go.Proofs.YtncbebfhakcgdaaGreat
namespace Go.Proofs.YtncbebfhakcgdaaGreat
open Go.RowKit Go.Shelf
attribute [local go_sem ↓] Go.wp_at_zero Go.wp_at_succ
set_option maxHeartbeats 2000000 in
theorem rplain20_calls (w : World) (Aq : Option Addr) (nq cq : Nat) (o : POp) (hq : nq = o.qtys.length) (u : Bool) (hu : plainB o = u) :
 Calls Tryz.prog 38 #[.agg #[.int .i64 o.kind, .int .i64 o.ord.id, .int .i64 o.ord.item, .int .i64 o.ord.due, .int .i64 o.ord.qty, .int .i64 o.id, .int .i64 o.period, .int .i64 o.qty, .slice Aq nq cq]] w (RetV w (.bool u)) := by
 have HNQ := hide hq; have HU := hide hu
 clear hq hu
 obtain ⟨W0, hW0⟩ : ∃ W0, W0 = (w.alloc (Obj.cells #[Value.int .i64 o.kind, Value.int .i64 o.ord.id, Value.int .i64 o.ord.item, Value.int .i64 o.ord.due, Value.int .i64 o.ord.qty, Value.int .i64 o.id, Value.int .i64 o.period, Value.int .i64 o.qty, Value.slice Aq nq cq] 31)) := ⟨_, rfl⟩
 have B0 := hide (show Later w W0 by rw [hW0]; exact (Later.refl _).alloc _)
 have HR0 := hide (show Row W0 w.heap.size 31 [.int .i64 o.kind, .int .i64 o.ord.id, .int .i64 o.ord.item, .int .i64 o.ord.due, .int .i64 o.ord.qty, .int .i64 o.id, .int .i64 o.period, .int .i64 o.qty, .slice Aq nq cq] by rw [hW0]; exact Row.new _ _ _)
 have HW0 := hide hW0
 clear hW0
 go_enter Tryz.func38, Tryz.ntmps38
 go_upto_region 1 with fail
 rw [<- HW0.out]
 have x0 := HR0.out.cell (i := 0) rfl; have x1 := HR0.out.cell (i := 1) rfl; have x2 := HR0.out.cell (i := 2) rfl; have x3 := HR0.out.cell (i := 3) rfl; have x4 := HR0.out.cell (i := 4) rfl; have x5 := HR0.out.cell (i := 5) rfl; have x6 := HR0.out.cell (i := 6) rfl; have x7 := HR0.out.cell (i := 7) rfl; have x8 := HR0.out.cell (i := 8) rfl
 by_cases c0 : 1 <= o.kind
 rotate_left
 ·have t0 : decide (1 <= o.kind) = false := by simpa using c0
  have HF : Hid (u = false) := hide (by rw [<- HU.out]; exact Bool.eq_false_iff.2 fun h => by have := (plainB_iff.1 h).1; omega)
  go_wp2_with fail
  go_ret
  exact ⟨by rw [HF.out]; rfl, B0.out⟩
 have t0 : decide (1 <= o.kind) = true := by simpa using c0
 by_cases c1 : o.kind <= 5
 rotate_left
 ·have t1 : decide (o.kind <= 5) = false := by simpa using c1
  have HF : Hid (u = false) := hide (by rw [<- HU.out]; exact Bool.eq_false_iff.2 fun h => by have := (plainB_iff.1 h).1; omega)
  go_wp2_with fail
  go_ret
  exact ⟨by rw [HF.out]; rfl, B0.out⟩
 have t1 : decide (o.kind <= 5) = true := by simpa using c1
 have HI := hide (plainB_iff (o := o))
 go_wp2_with fail
 all_goals (refine bodyPost_ret (results_bl rfl rfl) rfl ⟨?_, B0.out⟩; refine congrArg Ending.returned (congrArg Value.bool ?_); have hi := HI.out; have hn := HNQ.out; rw [<- HU.out, Bool.eq_iff_iff, hi, <- List.length_eq_zero_iff, <- hn]; clear hi hn HI HU HNQ; simp [POrd.isZ, *]; try omega)
end Go.Proofs.YtncbebfhakcgdaaGreat
namespace Go.Proofs.YtncbebfhakcgdaaGreat
open Go.RowKit Go.Shelf
attribute [local go_sem ↓] Go.wp_at_zero Go.wp_at_succ
section
variable {w : World} {o : Oper} {a : Act} {K : Act -> World -> Prop} {Q : Exit -> Act -> World -> Prop}
end
end Go.Proofs.YtncbebfhakcgdaaGreat
namespace Go.Proofs.YtncbebfhakcgdaaGreat
open Go.RowKit Go.Shelf
attribute [local go_sem ↓] Go.wp_at_zero Go.wp_at_succ
end Go.Proofs.YtncbebfhakcgdaaGreat
namespace Go.Proofs.YtncbebfhakcgdaaGreat
open Go.RowKit Go.Shelf
attribute [local go_sem ↓] Go.wp_at_zero Go.wp_at_succ
end Go.Proofs.YtncbebfhakcgdaaGreat
namespace Go.Proofs.YtncbebfhakcgdaaGreat
open Go.RowKit Go.Shelf
attribute [local go_sem ↓] Go.wp_at_zero Go.wp_at_succ
theorem Bytes.cons {x : Int} {l : List Int} (h : 0 <= x /\ x < 256) (k : Bytes l) : Bytes (x :: l) := fun y hy => (List.mem_cons.1 hy).elim (fun e => e ▸ h) (k y)
structure DS (w0 w : World) (g2 g3 : Nat) (vs : List Value) : Prop where
 r3 : Row w g3 31 vs
 r2 : Row w g2 31 [.int .i64 0, .int .i64 0, .int .i64 0, .int .i64 0, .int .i64 0, .int .i64 0, .int .i64 0, .int .i64 0, .slice none 0 0]
 lt : Later w0 w
 h2 : w0.heap.size <= g2
 h3 : w0.heap.size <= g3
 n23 : g2 ≠ g3
theorem DS.put {w0 w : World} {g2 g3 : Nat} {vs : List Value} (h : DS w0 w g2 g3 vs) (i : Nat) (v : Value) : DS w0 (w.setCell ⟨g3, i, none⟩ v) g2 g3 (vs.set i v) :=
 ⟨h.r3.set_ i v, h.r2.only (Only.one _ _ _ _) h.n23, h.lt.only (Only.one _ _ _ _) h.h3, h.h2, h.h3, h.n23⟩
theorem DS.later {w0 w w' : World} {g2 g3 : Nat} {vs : List Value} (h : DS w0 w g2 g3 vs) (hb : Later w w') : DS w0 w' g2 g3 vs :=
 ⟨h.r3.later hb, h.r2.later hb, h.lt.trans hb, h.h2, h.h3, h.n23⟩
theorem DS.grown {w0 w w' : World} {g2 g3 : Nat} {vs : List Value} {v : Value} {n : Nat} {xs : List Value} (h : DS w0 w g2 g3 vs) (hg : w.grownBy w' v.ownBlock) (ho : w.ownsRow w0.heap.size 3 1 v n xs) : DS w0 w' g2 g3 vs := by
 have e2 := own_box ho h.r2 (by decide)
 have e3 := own_box ho h.r3 (by decide)
 exact ⟨h.r3.grown hg (fun e => e3 g3 e.symm rfl), h.r2.grown hg (fun e => e2 g2 e.symm rfl), h.lt.grown hg (fun k hk => (World.ownsRow.lt ho k hk).1), h.h2, h.h3, h.n23⟩
end Go.Proofs.YtncbebfhakcgdaaGreat
namespace Go.Proofs.YtncbebfhakcgdaaGreat
open Go.RowKit Go.Shelf
attribute [local go_sem ↓] Go.wp_at_zero Go.wp_at_succ
theorem EFlag.agree {w W : World} {v : Value} {q : Rat} (h : EFlag w v q) (ha : Agree w W) : EFlag W v q := by
 obtain ⟨a, A, n, c, b, A', n', c', y, e, h1, h2⟩ := h
 exact ⟨a, A, n, c, b, A', n', c', y, e, rawI_agree h1 ha, h2⟩
theorem ENum.agree {k : Nat} {w W : World} {v : Value} {q : Rat} {f : Bool} (h : ENum k w v q f) (ha : Agree w W) : ENum k W v q f := ⟨rawR_agree h.1 ha, h.2.agree ha⟩
theorem cell_agr {w W : World} {a : Addr} {v : Value} (ha : Agree w W) (h : w.cell? a = some v) : W.cell? a = some v :=
 (World.cell?_of_block (a := a) (ha a.block (World.block_lt_of_cell? w _ h))).trans h
theorem Its.agree {k : Nat} {w W : World} {v : Value} {l : List PItem} (h : Its k w v l) (ha : Agree w W) : Its k W v l := by
 obtain ⟨A, c, e, h1, h2, h3⟩ := h
 refine ⟨A, c, e, h1, h2, fun i x hi => ?_⟩
 obtain ⟨b, off, hA, e1, e2, e3, hx, m1, m2, m3⟩ := h3 i x hi
 exact ⟨b, off, hA, e1, e2, e3, fun j u hj => cell_agr ha (hx j u hj), m1.agree ha, m2.agree ha, m3.agree ha⟩
theorem BookIn.agree {w W : World} {vI vC vO vM : Value} {D : PBook} (h : BookIn w vI vC vO vM D) (ha : Agree w W) : BookIn W vI vC vO vM D :=
 {h with its := h.its.agree ha, caps := h.caps.agree ha, ords := h.ords.agree ha, mks := h.mks.agree ha }
theorem On.book {w : World} {vI vC vO vM : Value} {D : PBook} (h : BookIn w vI vC vO vM D) : On w (fun b => b < w.heap.size) (fun W => BookIn W vI vC vO vM D) := On.base fun _ ha => h.agree ha
def RefP (P : Nat -> Prop) (w : World) (r : Except Int PBook) (e : Ending) (w' : World) : Prop := Later w w' /\ match r with
 | .ok D' => ∃ B1 B2 B3 B4 m1 m2 m3 m4 d1 d2 d3 d4, e = .returned (.tuple #[.agg #[.slice B1 m1 d1, .int .i64 D'.hor, .int .i64 D'.now, .slice B2 m2 d2, .slice B3 m3 d3, .slice B4 m4 d4], .int .i64 0]) /\ On w' (fun b => P b ∨ w.heap.size <= b) (fun W => BookIn W (.slice B1 m1 d1) (.slice B2 m2 d2) (.slice B3 m3 d3) (.slice B4 m4 d4) D')
 | .error c => e = .returned (.tuple #[.agg #[.slice none 0 0, .int .i64 0, .int .i64 0, .slice none 0 0, .slice none 0 0, .slice none 0 0], .int .i64 c])
theorem bk_lens {w : World} {A1 A2 A3 A4 : Option Addr} {n1 n2 n3 n4 c1 c2 c3 c4 : Nat} {D : PBook} (h : BookIn w (.slice A1 n1 c1) (.slice A2 n2 c2) (.slice A3 n3 c3) (.slice A4 n4 c4) D) : n1 = D.items.length /\ n2 = D.caps.length /\ n3 = D.ords.length /\ n4 = D.mks.length := by
 obtain ⟨_, _, _, e1, e2, -⟩ := h.its.form
 obtain ⟨_, _, _, e3, e4, -⟩ := h.caps.form
 obtain ⟨_, _, _, e5, e6, -⟩ := h.ords.form
 obtain ⟨_, _, _, e7, e8, -⟩ := h.mks.form
 injection e1 with _ e1; injection e3 with _ e3; injection e5 with _ e5; injection e7 with _ e7
 exact ⟨by omega, by omega, by omega, by omega⟩
theorem mkat {w : World} {A : Option Addr} {n c : Nat} {l : List PMk} (h : Sq 3 mCells w (.slice A n c) l) {i : Nat} {x : PMk} (hi : l[i]? = some x) : ∃ b off, A = some ⟨b, off, none⟩ /\ w.cell? ⟨b, off + i * 3, none⟩ = some (.int .i64 x.item) /\ w.cell? ⟨b, off + i * 3 + 1, none⟩ = some (.int .i64 x.period) /\ w.cell? ⟨b, off + i * 3 + 2, none⟩ = some (.int .i64 x.qty) := by
 obtain ⟨b, off, e, hx⟩ := h.at_ hi
 exact ⟨b, off, e, hx 0 _ rfl, hx 1 _ rfl, hx 2 _ rfl⟩
theorem orat {w : World} {A : Option Addr} {n c : Nat} {l : List POrd} (h : Sq 4 oCells w (.slice A n c) l) {i : Nat} {x : POrd} (hi : l[i]? = some x) : ∃ b off, A = some ⟨b, off, none⟩ /\ w.cell? ⟨b, off + i * 4, none⟩ = some (.int .i64 x.id) /\ w.cell? ⟨b, off + i * 4 + 1, none⟩ = some (.int .i64 x.item) /\ w.cell? ⟨b, off + i * 4 + 2, none⟩ = some (.int .i64 x.due) /\ w.cell? ⟨b, off + i * 4 + 3, none⟩ = some (.int .i64 x.qty) := by
 obtain ⟨b, off, e, hx⟩ := h.at_ hi
 exact ⟨b, off, e, hx 0 _ rfl, hx 1 _ rfl, hx 2 _ rfl, hx 3 _ rfl⟩
set_option maxHeartbeats 2000000 in
theorem rcommitted_calls (w : World) (A1 A2 A3 A4 : Option Addr) (n1 n2 n3 n4 c1 c2 c3 c4 : Nat) (D : PBook) (h : BookIn w (.slice A1 n1 c1) (.slice A2 n2 c2) (.slice A3 n3 c3) (.slice A4 n4 c4) D) (p : Int) (u : Bool) (hu : D.mks.any (fun x => decide (x.period = p)) = u) :
 Calls Tryz.prog 114 #[.agg #[.slice A1 n1 c1, .int .i64 D.hor, .int .i64 D.now, .slice A2 n2 c2, .slice A3 n3 c3, .slice A4 n4 c4], .int .i64 p] w (RetV w (.bool u)) := by
 obtain ⟨hn1, hn2, hn3, hn4⟩ := bk_lens h
 have H := hide h; have HN := hide hn4; have HU := hide hu
 have hn9 : n4 <= 1000 := by have := h.ml; omega
 clear h hu hn1 hn2 hn3 hn4
 obtain ⟨W0, hW0⟩ : ∃ W0, W0 = (w.alloc (Obj.cells #[Value.slice A1 n1 c1, Value.int .i64 D.hor, Value.int .i64 D.now, Value.slice A2 n2 c2, Value.slice A3 n3 c3, Value.slice A4 n4 c4] 27)) := ⟨_, rfl⟩
 obtain ⟨hb0, r0, hsz0⟩ := boxes1 w [.slice A1 n1 c1, .int .i64 D.hor, .int .i64 D.now, .slice A2 n2 c2, .slice A3 n3 c3, .slice A4 n4 c4] 27 hW0
 have B0 := hide hb0; have HW0 := hide hW0; have HSZ0 := hide hsz0
 have R0 := hide r0
 clear hb0 hW0 hsz0 r0
 go_enter Tryz.func114, Tryz.ntmps114
 go_upto_region 1 with fail
 rw [<- HW0.out]
 go_wp2_with fail
 go_loopw [5] (fun iv wr => ∃ j : Nat, iv = .int .i64 (j : Int) /\ j <= n4 /\ Hid (∀ (i : Nat) x, i < j -> D.mks[i]? = some x -> x.period ≠ p) /\ Hid (Later W0 wr)) (fun iv _ => (n4 - intOf iv).toNat)
 case atStart => exact ⟨0, rfl, Nat.zero_le _, hide (fun i x hi => by omega), hide (Later.refl _)⟩
 case round =>
  obtain ⟨j, rfl, hj, HOK, HL⟩ := hrel
  have x5 := (R0.out.later HL.out).cell (i := 5) rfl
  by_cases hjn : j < n4
  ·obtain ⟨x, hx⟩ : ∃ x, D.mks[j]? = some x := ⟨D.mks[j]'(by have := HN.out; omega), List.getElem?_eq_getElem _⟩
   obtain ⟨b1, off1, rfl, y0, y1, y2⟩ := mkat (H.out.later (B0.out.trans HL.out)).mks hx
   have HX := hide hx
   have hj0 : (0 : Int) <= (j : Int) := by omega
   have hj1 : (j : Int) < n4 := by omega
   clear hx
   by_cases e : x.period = p
   ·have t1 : (x.period == p) = true := by simpa using e
    have HV : Hid (u = true) := hide (by rw [<- HU.out]; exact List.any_eq_true.2 ⟨x, List.mem_of_getElem? HX.out, by simpa using e⟩)
    clear e
    go_wp2_with fail
    go_ret
    exact ⟨by (rw [HV.out]) <;> rfl, B0.out.trans HL.out⟩
   ·have t1 : (x.period == p) = false := by simpa using e
    have HOK2 : Hid (∀ (i : Nat) y, i < j + 1 -> D.mks[i]? = some y -> y.period ≠ p) := hide (fun i y hi hy => by
     by_cases e2 : i < j
     ·exact HOK.out i y e2 hy
     ·obtain rfl : i = j := by omega
      rw [HX.out] at hy; injection hy with hy; rw [<- hy]; exact e)
    clear e
    go_wp2_with fail
    exact ⟨⟨j+1, by go_num, by omega, HOK2, HL⟩, by simp [intOf]; omega⟩
  ·have hj1 : ¬ (j : Int) < n4 := by omega
   have HV : Hid (u = false) := hide (by
    rw [<- HU.out]
    rw [List.any_eq_false]
    intro x hx
    obtain ⟨i, hi⟩ := List.getElem?_of_mem hx
    simpa using HOK.out i x (by have := (List.getElem?_eq_some_iff.1 hi).1; have := HN.out; omega) hi)
   go_wp2_with fail
   go_ret
   exact ⟨by (rw [HV.out]) <;> rfl, B0.out.trans HL.out⟩
set_option maxHeartbeats 2000000 in
theorem rperiod_calls (w : World) (A1 A2 A3 A4 : Option Addr) (n1 n2 n3 n4 c1 c2 c3 c4 : Nat) (D : PBook) (h : BookIn w (.slice A1 n1 c1) (.slice A2 n2 c2) (.slice A3 n3 c3) (.slice A4 n4 c4) D) (p : Int) :
 Calls Tryz.prog 85 #[.agg #[.slice A1 n1 c1, .int .i64 D.hor, .int .i64 D.now, .slice A2 n2 c2, .slice A3 n3 c3, .slice A4 n4 c4], .int .i64 p] w (RetV w (.int .i64 (perE D p))) := by
 have H := hide h
 obtain ⟨u, hu⟩ : ∃ u, D.mks.any (fun x => decide (x.period = p)) = u := ⟨_, rfl⟩
 have HU := hide hu
 clear h hu
 obtain ⟨W0, hW0⟩ : ∃ W0, W0 = (w.alloc (Obj.cells #[Value.slice A1 n1 c1, Value.int .i64 D.hor, Value.int .i64 D.now, Value.slice A2 n2 c2, Value.slice A3 n3 c3, Value.slice A4 n4 c4] 27)) := ⟨_, rfl⟩
 obtain ⟨hb0, r0, hsz0⟩ := boxes1 w [.slice A1 n1 c1, .int .i64 D.hor, .int .i64 D.now, .slice A2 n2 c2, .slice A3 n3 c3, .slice A4 n4 c4] 27 hW0
 have B0 := hide hb0; have HW0 := hide hW0; have HSZ0 := hide hsz0
 have R0 := hide r0
 clear hb0 hW0 hsz0 r0
 go_enter Tryz.func85, Tryz.ntmps85
 go_upto_region 1 with fail
 rw [<- HW0.out]
 have r_x := R0.out.later (Later.refl W0)
 have x0 := r_x.cell (i := 0) rfl; have x1 := r_x.cell (i := 1) rfl; have x2 := r_x.cell (i := 2) rfl; have x3 := r_x.cell (i := 3) rfl; have x4 := r_x.cell (i := 4) rfl; have x5 := r_x.cell (i := 5) rfl
 clear r_x
 by_cases g1 : p < 0
 ·have t1 : decide (p < 0) = true := by simpa using g1
  have HV : Hid (perE D p = 1) := hide (by unfold perE; rw [if_pos (by omega)])
  go_wp2_with fail
  go_ret
  exact ⟨by (rw [HV.out]) <;> rfl, B0.out⟩
 have t1 : decide (p < 0) = false := by simpa using g1
 by_cases g2 : 39 < p
 ·have t2 : decide (39 < p) = true := by simpa using g2
  have HV : Hid (perE D p = 1) := hide (by unfold perE; rw [if_pos (by omega)])
  go_wp2_with fail
  go_ret
  exact ⟨by (rw [HV.out]) <;> rfl, B0.out⟩
 have t2 : decide (39 < p) = false := by simpa using g2
 by_cases g3 : p < D.now
 ·have t3 : decide (p < D.now) = true := by simpa using g3
  have HV : Hid (perE D p = 13) := hide (by unfold perE; rw [if_neg (by omega), if_pos g3])
  go_wp2_with fail
  go_ret
  exact ⟨by (rw [HV.out]) <;> rfl, B0.out⟩
 have t3 : decide (p < D.now) = false := by simpa using g3
 cases u with
 | true =>
   have HV : Hid (perE D p = 9) := hide (by unfold perE; rw [if_neg (by omega), if_neg g3, if_pos HU.out])
   go_wp2_with (go_at_call 114; (refine (rcommitted_calls _ A1 A2 A3 A4 n1 n2 n3 n4 c1 c2 c3 c4 D (H.out.later B0.out) p _ HU.out).mono ?_); rintro e w1 ⟨rfl, b1⟩)
   go_ret
   exact ⟨by (rw [HV.out]) <;> rfl, B0.out.trans b1⟩
 | false =>
   have HV : Hid (perE D p = 0) := hide (by unfold perE; rw [if_neg (by omega), if_neg g3, if_neg (by rw [HU.out]; simp)])
   go_wp2_with (go_at_call 114; (refine (rcommitted_calls _ A1 A2 A3 A4 n1 n2 n3 n4 c1 c2 c3 c4 D (H.out.later B0.out) p _ HU.out).mono ?_); rintro e w1 ⟨rfl, b1⟩)
   go_ret
   exact ⟨by (rw [HV.out]) <;> rfl, B0.out.trans b1⟩
end Go.Proofs.YtncbebfhakcgdaaGreat
