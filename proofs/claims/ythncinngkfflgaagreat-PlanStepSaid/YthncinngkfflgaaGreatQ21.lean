/- Plans: what a plan costs: a sum in a box. -/
import Derived.Test.YthncinngkfflgaaGreatQ20
set_option linter.unusedVariables false
set_option linter.unusedSimpArgs false
set_option maxRecDepth 100000
namespace Go.Proofs.YthncinngkfflgaaGreat
open Go.RowKit Go.Shelf
attribute [local go_sem ↓] Go.wp_at_zero Go.wp_at_succ

set_option maxHeartbeats 2000000 in
theorem plof_calls (w : World) (n : Int) (h1 : -9223372036854775808 ≤ n) (h2 : n < 9223372036854775808) (q : Rat) (hq : Rat.divInt n 1 = q) : Calls Tryz.prog 84 #[.int .i64 n] w (Ret w fun w' v => OwnR w' w.heap.size v q) := by
  go_enter Tryz.func84, Tryz.ntmps84
  go_upto_region 1 with fail
  obtain ⟨W0, hW0⟩ : ∃ W0, W0 = w.alloc (Obj.cells #[Value.bool false, Value.slice none 0 0, Value.bool false, Value.slice none 0 0] 37) := ⟨_, rfl⟩
  obtain ⟨hb0, r1, hsz0⟩ := boxes1 w [.bool false, .slice none 0 0, .bool false, .slice none 0 0] 37 hW0
  have R1 := hide r1; have B0' := hide hb0; have HW0 := hide hW0
  clear r1 hb0 hW0
  rw [← HW0.out]
  go_wp2_with fail
  ((with_reducible refine (rof1_calls W0 n h1 h2 q hq).mono ?_); rintro e w1 ⟨v1, ok, rfl, ⟨o1, rfl⟩, b1⟩)
  obtain ⟨s1, P1, q1, e1, P1', q1', e1', rfl, o1⟩ := o1.open_; have O1 := hide o1; clear o1
  have HB1 := hide b1
  clear b1
  go_upto_region 2 with fail
  obtain ⟨W1, hW1⟩ : ∃ W1, W1 = w1.alloc (Obj.cells #[Value.bool s1, Value.slice P1 q1 e1, Value.bool false, Value.slice P1' q1' e1'] 37) := ⟨_, rfl⟩
  obtain ⟨g1, hg1⟩ : ∃ g1, g1 = w1.heap.size := ⟨_, rfl⟩
  have hb : Later w1 W1 := by rw [hW1]; exact (Later.refl _).alloc _
  have hr : Row W1 g1 37 [.bool s1, .slice P1 q1 e1, .bool false, .slice P1' q1' e1'] := by rw [hW1, hg1]; exact Row.new _ _ _
  rw [← hW1, ← hg1]
  have hL := HB1.out.trans hb
  have hrow := R1.out.later hL
  have hsz := hL.size
  obtain ⟨d1, d2, d3, d4, d5, d6, d7, d8⟩ := row_cells4 hrow
  obtain ⟨f1, f2, f3, f4, f5, f6, f7, f8⟩ := row_cells4 hr
  have hs : w.heap.size < W0.heap.size := R1.out.lt
  have hs2 := HB1.out.size
  have HR := hide hrow; have HL := hide (B0'.out.trans hL)
  have HO := hide (OwnR.later O1.out hb)
  clear hrow hL hb hr hW1 hg1
  go_wp2_with fail
  refine bodyPost_ret (results_rat rfl rfl (HR.out.four _ _ _ _)) rfl ?_
  have oo := Only.four w.heap.size W1 (.bool s1) (.slice P1 q1 e1) (.bool false) (.slice P1' q1' e1')
  exact ⟨_, rfl, (HO.out.only oo (by omega)).weaken (by omega), HL.out.only oo (Nat.le_refl _)⟩


theorem divInt_one (n : Int) : Rat.divInt n 1 = (n : Rat) := by rw [Rat.divInt_eq_div]; simp; grind
theorem sized_int {n : Int} (h1 : -2000000000 ≤ n) (h2 : n ≤ 2000000000) : Sized (n : Rat) 1 := sized_small (by rw [Rat.num_intCast]; omega) (by rw [Rat.den_intCast]; decide)
/-- one step: something new, then a write to one block -/
def Stp (G : Nat) (w w' : World) : Prop := ∃ w6, Later w w6 ∧ Only G w6 w'
theorem Stp.later {G : Nat} {a w w' : World} (h : Later a w) (s : Stp G w w') (hg : a.heap.size ≤ G) : Later a w' := by
  obtain ⟨w6, h1, h2⟩ := s; exact (h.trans h1).only h2 hg
theorem Stp.row {G g : Nat} {w w' : World} {t : TypeId} {cs : List Value} (s : Stp G w w') (r : Row w g t cs) (hg : g ≠ G) : Row w' g t cs := by
  obtain ⟨w6, h1, h2⟩ := s; exact (r.later h1).only h2 hg
theorem On.stp {G : Nat} {w w' : World} {P : Nat → Prop} {T : World → Prop} (h : On w P T) (s : Stp G w w') (hg : ¬ P G) : On w' P T := by
  obtain ⟨w6, h1, h2⟩ := s; exact (h.later h1).only h2 hg
/-- a sum in a box -/
def SumAt (w : World) (lo G : Nat) (s : Rat) (k : Nat) : Prop := ∃ ss As ns cs As' ns' cs', Row w G 37 [.bool ss, .slice As ns cs, .bool false, .slice As' ns' cs'] ∧ On w (fun b => lo ≤ b ∧ b ≠ G) (fun W => OwnR W 0 (.agg #[.bool ss, .slice As ns cs, .bool false, .slice As' ns' cs']) s) ∧ Sized s k
theorem SumAt.later {w w' : World} {lo G : Nat} {s : Rat} {k : Nat} (h : SumAt w lo G s k) (hb : Later w w') : SumAt w' lo G s k := by
  obtain ⟨ss, As, ns, cs, As', ns', cs', h1, h2, h3⟩ := h
  exact ⟨ss, As, ns, cs, As', ns', cs', h1.later hb, h2.later hb, h3⟩
theorem SumAt.mono {w : World} {lo G : Nat} {s : Rat} {k m : Nat} (h : SumAt w lo G s k) (hm : k ≤ m) : SumAt w lo G s m := by
  obtain ⟨ss, As, ns, cs, As', ns', cs', h1, h2, h3⟩ := h
  exact ⟨ss, As, ns, cs, As', ns', cs', h1, h2, h3.mono hm⟩
theorem SumAt.lt {w : World} {lo G : Nat} {s : Rat} {k : Nat} (h : SumAt w lo G s k) : G < w.heap.size := by
  obtain ⟨ss, As, ns, cs, As', ns', cs', h1, -⟩ := h; exact h1.lt

set_option maxHeartbeats 4000000 in
theorem plcost1_calls (w : World) (va : Value) (a : Rat) (ha : RawR w va a 12) (n : Int) (hn1 : -2000000000 ≤ n) (hn2 : n ≤ 2000000000) (lo G : Nat) (s : Rat) (k : Nat) (hs : SumAt w lo G s k) (hlo : lo ≤ w.heap.size) (hk : k ≤ 10000) :
    Calls Tryz.prog 81 #[va, .int .i64 n, .pointer (some ⟨G, 0, none⟩)] w (fun e w' => (∃ v, e = .returned v) ∧ SumAt w' lo G (s + a * n) (k + 15) ∧ Stp G w w') := by
  have HA := hide ha
  obtain ⟨sx, A1, n1, c1, sx', A2, n2, c2, rfl⟩ := ha.open_
  have hg := hs.lt
  obtain ⟨ss, As, ns, cs, As', ns', cs', h1, h2, h3⟩ := hs
  have HROW := hide h1; have HO := hide h2.now; have HSZ := hide h3
  have HNS := hide (sized_int hn1 hn2)
  have HMS : Hid (Sized (a * n) 14) := hide (ha.sized.mul HNS.out)
  have HAS : Hid (Sized (s + a * n) (k + 15)) := hide (h3.add HMS.out)
  clear ha h2 h3
  obtain ⟨W0, hW0⟩ : ∃ W0, W0 = (w.alloc (Obj.cells #[Value.bool sx, Value.slice A1 n1 c1, Value.bool sx', Value.slice A2 n2 c2] 37)) := ⟨_, rfl⟩
  obtain ⟨hb0, r0, hsz0⟩ := boxes1 w [.bool sx, .slice A1 n1 c1, .bool sx', .slice A2 n2 c2] 37 hW0
  have B0 := hide hb0; have HW0 := hide hW0
  have R0 := hide r0
  clear hb0 hW0 hsz0 r0
  go_enter Tryz.func81, Tryz.ntmps81
  go_upto_region 1 with fail
  rw [← HW0.out]
  have hr1 := R0.out.later (Later.refl W0).drew
  have hr0 := h1.later B0.out.drew
  have HT1 : Hid (∀ w', Later W0.drew w' → w'.cell? ⟨G, 0, none⟩ = some (.bool ss) ∧ w'.cell? ⟨G, 1, none⟩ = some (.slice As ns cs) ∧ w'.cell? ⟨G, 2, none⟩ = some (.bool false) ∧ w'.cell? ⟨G, 3, none⟩ = some (.slice As' ns' cs') ∧ w'.cell? ⟨w.heap.size, 0, none⟩ = some (.bool sx) ∧ w'.cell? ⟨w.heap.size, 1, none⟩ = some (.slice A1 n1 c1) ∧ w'.cell? ⟨w.heap.size, 2, none⟩ = some (.bool sx') ∧ w'.cell? ⟨w.heap.size, 3, none⟩ = some (.slice A2 n2 c2)) := hide fun w' hb => ⟨(hr0.later hb).cell rfl, (hr0.later hb).cell rfl, (hr0.later hb).cell rfl, (hr0.later hb).cell rfl, (hr1.later hb).cell rfl, (hr1.later hb).cell rfl, (hr1.later hb).cell rfl, (hr1.later hb).cell rfl⟩
  have hsz : W0.drew.heap.size = w.heap.size + 1 := by show W0.heap.size = _; rw [HW0.out]; simp
  clear hr1 hr0 h1
  have hmx : Tryz.prog.follows .mixedOrders = true := by kernel_rfl
  refine wp_region_N (fun w' => w'.cell? ⟨G, 0, none⟩ = some (.bool ss) ∧ w'.cell? ⟨G, 1, none⟩ = some (.slice As ns cs) ∧ w'.cell? ⟨G, 2, none⟩ = some (.bool false) ∧ w'.cell? ⟨G, 3, none⟩ = some (.slice As' ns' cs') ∧ w'.cell? ⟨w.heap.size, 0, none⟩ = some (.bool sx) ∧ w'.cell? ⟨w.heap.size, 1, none⟩ = some (.slice A1 n1 c1) ∧ w'.cell? ⟨w.heap.size, 2, none⟩ = some (.bool sx') ∧ w'.cell? ⟨w.heap.size, 3, none⟩ = some (.slice A2 n2 c2)) [6] hmx (HT1.out _ (Later.refl _)) (fun hHeld => ?_)
  refine wpAnyN_takeD (some 5) (by rfl) (i := 0) (oi := _) (v := ?_) rfl (by kernel_rfl) (by kernel_rfl) (by kernel_rfl) (by kernel_rfl) (fun _ _ _ h => h) (Or.inl ⟨by rfl, ?_⟩) (by assumption) ?_
  rotate_left
  · intro w hSw; (try dsimp only at hSw); go_simp
    first | done | with_reducible rfl
  try simp only [Act.put, List.setIfInBounds_toArray, List.set_cons_zero, List.set_cons_succ]
  refine wpAnyN_takeD (some 6) (by rfl) (i := 1) (oi := _) (v := ?_) rfl (by kernel_rfl) (by kernel_rfl) (by kernel_rfl) (by kernel_rfl) (fun _ _ _ h => h) (Or.inl ⟨by rfl, ?_⟩) (by assumption) ?_
  rotate_left
  · intro w hSw; (try dsimp only at hSw); go_simp
    first | done | with_reducible rfl
  try simp only [Act.put, List.setIfInBounds_toArray, List.set_cons_zero, List.set_cons_succ]
  refine wpAnyN_takeD (some 7) (by rfl) (i := 2) (oi := _) (v := ?_) rfl (by kernel_rfl) (by kernel_rfl) (by kernel_rfl) (by kernel_rfl) (fun _ _ _ h => h) (Or.inl ⟨by rfl, ?_⟩) (by assumption) ?_
  rotate_left
  · intro w hSw; (try dsimp only at hSw); go_simp
    first | done | with_reducible rfl
  try simp only [Act.put, List.setIfInBounds_toArray, List.set_cons_zero, List.set_cons_succ]
  refine wpAnyN_ready (rs := [3]) (by kernel_rfl) (by simp) ?_
  refine AllReadyN.held rfl (by rfl) (fun K hK => ?_) AllReadyN.nil
  go_simp
  refine (plof_calls W0.drew n (by omega) (by omega) n (divInt_one n)).mono ?_
  rintro e w3 ⟨v3, rfl, o3, b3⟩
  obtain ⟨s3, P3, q3, e3, P3', q3', e3', rfl, o3⟩ := o3.open_; have O3 := hide o3; clear o3
  refine hK.out _ _ ?_ (fun hHeld => ?_)
  · exact HT1.out _ b3
  clear hK K
  try simp only [Act.put, List.setIfInBounds_toArray, List.set_cons_zero, List.set_cons_succ]
  refine wpAnyN_ready (rs := [4]) (by kernel_rfl) (by simp) ?_
  refine AllReadyN.held rfl (by rfl) (fun K hK => ?_) AllReadyN.nil
  go_simp
  refine (rmul_calls w3 _ _ a n 12 1 (RawR.later HA.out (B0.out.drew.trans b3)) (OwnR.raw O3.out HNS.out) (by omega)).mono ?_
  rintro e w4 ⟨v4, rfl, o4, b4⟩
  obtain ⟨s4, P4, q4, e4, P4', q4', e4', rfl, o4⟩ := o4.open_; have O4 := hide o4; clear o4
  refine hK.out _ _ ?_ (fun hHeld => ?_)
  · exact HT1.out _ (b3.trans b4)
  clear hK K
  try simp only [Act.put, List.setIfInBounds_toArray, List.set_cons_zero, List.set_cons_succ]
  refine wpAnyN_ready (rs := [5]) (by kernel_rfl) (by simp) ?_
  refine AllReadyN.held rfl (by rfl) (fun K hK => ?_) AllReadyN.nil
  go_simp
  refine (radd_calls w4 _ _ s (a * n) k 14 (RawR.later (OwnR.raw HO.out HSZ.out) (B0.out.drew.trans (b3.trans b4))) (OwnR.raw O4.out HMS.out) (by omega)).mono ?_
  rintro e w5 ⟨v5, rfl, o5, b5⟩
  obtain ⟨s5, P5, q5, e5, P5', q5', e5', rfl, o5⟩ := o5.open_; have O5 := hide o5; clear o5
  obtain ⟨y1, y2, y3, y4, y5, y6, y7, y8⟩ := row_cells4 (HROW.out.later (B0.out.drew.trans (b3.trans (b4.trans b5))))
  refine hK.out _ _ ?_ (fun hHeld => ?_)
  · exact HT1.out _ (b3.trans (b4.trans b5))
  clear hK K
  try simp only [Act.put, List.setIfInBounds_toArray, List.set_cons_zero, List.set_cons_succ]
  refine wpAnyN_ready (rs := [6]) (by kernel_rfl) (by simp) ?_
  refine AllReadyN.free rfl (by rfl) (by kernel_rfl) (fun K hK => ?_) AllReadyN.nil
  go_simp
  refine hK.out _ _ ?_
  clear hK K
  try simp only [Act.put, List.setIfInBounds_toArray, List.set_cons_zero, List.set_cons_succ]
  refine wpAnyN_done (by kernel_rfl) ?_ _
  have HLL := hide (B0.out.drew.trans (b3.trans (b4.trans b5)))
  have hs5 := (B0.out.drew.trans (b3.trans b4)).size
  have hr5 := (HROW.out.later HLL.out).four (.bool s5) (.slice P5 q5 e5) (.bool false) (.slice P5' q5' e5')
  have oo := Only.four G w5 (.bool s5) (.slice P5 q5 e5) (.bool false) (.slice P5' q5' e5')
  have HR5 := hide hr5; have HOO := hide oo
  clear hr5 oo y1 y2 y3 y4 y5 y6 y7 y8 b3 b4 b5
  go_wp2_with fail
  go_end0
  exact ⟨⟨_, rfl⟩, ⟨_, _, _, _, _, _, _, HR5.out, ((On.ownR O5.out).mono (fun b hb _ => ⟨by omega, by omega⟩)).only HOO.out (by simp), HAS.out⟩, _, HLL.out, HOO.out⟩

end Go.Proofs.YthncinngkfflgaaGreat

/- Plans: what a plan costs (the program). -/
set_option linter.unusedVariables false
set_option linter.unusedSimpArgs false
set_option maxRecDepth 100000
namespace Go.Proofs.YthncinngkfflgaaGreat
open Go.RowKit Go.Shelf
attribute [local go_sem ↓] Go.wp_at_zero Go.wp_at_succ

theorem ENum.raw {k : Nat} {w : World} {v : Value} {q : Rat} {f : Bool} (h : ENum k w v q f) : RawR w v q k := h.1
/-- what an item costs in a period -/
def termC (x : PItem) (q n : Int) : Rat := (if 0 < q then x.s else 0) + x.h * ((max n 0 : Int) : Rat) + x.b * ((max (-n) 0 : Int) : Rat)
noncomputable def costRow (D : PBook) (x : PItem) (r : List Int) (i : Nat) : Nat → Rat
  | 0 => 0
  | k + 1 => costRow D x r i k + termC x (r.getD k 0) (lev D r i (k+1))
def item0 : PItem := ⟨0, 0, 0, true, true, true⟩
noncomputable def costTo (D : PBook) (t : List (List Int)) : Nat → Rat
  | 0 => 0
  | m + 1 => costTo D t m + costRow D (D.items.getD m item0) (t.getD m []) m D.hor.toNat
noncomputable def costV (D : PBook) (t : List (List Int)) : Rat := if shapeB D t = true then costTo D t t.length else 0
/-- what Cost hands back -/
def RetC (w : World) (q : Rat) (ok : Bool) (e : Ending) (w' : World) : Prop := ∃ v, e = .returned (.tuple #[v, .bool ok]) ∧ OwnR w' 0 v q ∧ Sized q 1000 ∧ Later w w'
theorem item_at {D : PBook} {i : Nat} {x : PItem} (h : D.items[i]? = some x) : D.items.getD i item0 = x := by rw [List.getD_eq_getElem?_getD, h]; rfl
theorem row_at {t : List (List Int)} {i : Nat} {r : List Int} (h : t[i]? = some r) : t.getD i [] = r := by rw [List.getD_eq_getElem?_getD, h]; rfl
theorem shape_hor {D : PBook} {t : List (List Int)} (h : ShapeP D t) : 1 ≤ D.hor ∧ D.hor ≤ 6 ∧ t.length ≤ 3 := by
  have h1 := h.may.head.h1; have h6 := h.may.head.h6; have := h.may.head.n1; have := h.may.head.n3
  have hl := h.len
  rcases (by omega : D.items.length = 1 ∨ D.items.length = 2 ∨ D.items.length = 3) with e | e | e <;> rw [e] at h6 <;> omega
theorem OwnR.at0 {w : World} {B : Nat} {v : Value} {q : Rat} (h : OwnR w B v q) : OwnR w 0 v q := h.weaken (Nat.zero_le _)

set_option maxHeartbeats 8000000 in
theorem plcost_calls (w : World) (A1 A2 A3 A4 : Option Addr) (n1 n2 n3 n4 c1 c2 c3 c4 : Nat) (D : PBook) (h : BookIn w (.slice A1 n1 c1) (.slice A2 n2 c2) (.slice A3 n3 c3) (.slice A4 n4 c4) D) (Aq : Option Addr) (nq cq : Nat) (t : List (List Int)) (hq : GridIn w (.slice Aq nq cq) t) :
    Calls Tryz.prog 34 #[.agg #[.slice A1 n1 c1, .int .i64 D.hor, .int .i64 D.now, .slice A2 n2 c2, .slice A3 n3 c3, .slice A4 n4 c4], .slice Aq nq cq] w (RetC w (costV D t) (shapeB D t)) := by
  have H := hide h; have HQ := hide hq
  have LQ := hide hq.lenq
  obtain ⟨l1, l2, l3, l4⟩ := h.lens
  have L1 := hide l1
  obtain ⟨u0, hu0⟩ : ∃ u, shapeB D t = u := ⟨_, rfl⟩
  have HU0 := hide hu0
  have HC : Hid (costV D t = if u0 = true then costTo D t t.length else 0) := hide (by unfold costV; rw [hu0])
  obtain ⟨zc, hzc⟩ : ∃ z, costV D t = z := ⟨_, rfl⟩
  rw [hzc] at HC
  rw [hu0, hzc]
  clear h hq hu0 hzc l1 l2 l3 l4
  obtain ⟨W0, hW0⟩ : ∃ W0, W0 = ((w.alloc (Obj.cells #[Value.slice A1 n1 c1, Value.int .i64 D.hor, Value.int .i64 D.now, Value.slice A2 n2 c2, Value.slice A3 n3 c3, Value.slice A4 n4 c4] 47)).alloc (Obj.cells #[Value.bool false, Value.slice none 0 0, Value.bool false, Value.slice none 0 0] 37)) := ⟨_, rfl⟩
  obtain ⟨hb0, r0, r1, hsz0⟩ := boxes2 w [.slice A1 n1 c1, .int .i64 D.hor, .int .i64 D.now, .slice A2 n2 c2, .slice A3 n3 c3, .slice A4 n4 c4] [.bool false, .slice none 0 0, .bool false, .slice none 0 0] 47 37 hW0
  have B0 := hide hb0; have HW0 := hide hW0
  have R0 := hide r0; have R1 := hide r1
  clear hb0 hW0 hsz0 r0 r1
  go_enter Tryz.func34, Tryz.ntmps34
  go_upto_region 1 with fail
  rw [← HW0.out]
  have r_d := R0.out.later (Later.refl W0)
  have d0 := r_d.cell (i := 0) rfl; have d1 := r_d.cell (i := 1) rfl; have d2 := r_d.cell (i := 2) rfl; have d3 := r_d.cell (i := 3) rfl; have d4 := r_d.cell (i := 4) rfl; have d5 := r_d.cell (i := 5) rfl
  clear r_d
  go_wp2_with fail
  ((with_reducible refine (plshape_calls _ _ _ _ _ _ _ _ _ _ _ _ _ D (H.out.later B0.out) _ _ _ t (HQ.out.later B0.out) u0 HU0.out).mono ?_); rintro e w1 ⟨rfl, b1⟩)
  have HL1 := hide b1
  have hs01 := b1.size
  have hs0 : w.heap.size + 1 < W0.heap.size := R1.out.lt
  clear b1 d0 d1 d2 d3 d4 d5
  have r_d := R0.out.later HL1.out
  have d0 := r_d.cell (i := 0) rfl; have d1 := r_d.cell (i := 1) rfl; have d2 := r_d.cell (i := 2) rfl; have d3 := r_d.cell (i := 3) rfl; have d4 := r_d.cell (i := 4) rfl; have d5 := r_d.cell (i := 5) rfl
  clear r_d
  cases u0 with
  | false =>
    have HZ : Hid (zc = 0) := hide (by rw [HC.out]; simp)
    go_wp2_with fail
    ((with_reducible refine (plzero_calls w1).mono ?_); rintro e w2 ⟨v2, rfl, o2, b2⟩)
    obtain ⟨s2, P2, q2, e2, P2', q2', e2', rfl, o2⟩ := o2.open_; have O2 := hide o2; clear o2
    have hL := HL1.out.trans b2
    have hrow := R1.out.later hL
    obtain ⟨y1, y2, y3, y4, y5, y6, y7, y8⟩ := row_cells4 hrow
    have HR := hide hrow; have HL := hide (B0.out.trans hL)
    clear hrow b2 hL d0 d1 d2 d3 d4 d5
    go_wp2_with fail
    refine bodyPost_ret (results_rat_bool rfl rfl rfl (HR.out.four _ _ _ _)) rfl ?_
    have oo := Only.four (w.heap.size + 1) w2 (.bool s2) (.slice P2 q2 e2) (.bool false) (.slice P2' q2' e2')
    exact ⟨_, rfl, by rw [HZ.out]; exact (O2.out.only oo (by omega)).weaken (Nat.zero_le _), by rw [HZ.out]; exact sized_0.mono (by omega), HL.out.only oo (by omega)⟩
  | true =>
  have HZ : Hid (zc = costTo D t t.length) := hide (by rw [HC.out]; simp)
  have HS := hide (shapeB_iff.1 HU0.out)
  have hsh := shape_hor HS.out
  obtain ⟨hz, hhz⟩ : ∃ m : Nat, (m : Int) = D.hor := ⟨D.hor.toNat, by omega⟩
  have HHZ := hide hhz
  have HZJ : Hid (D.hor.toNat = hz) := hide (by omega)
  have hz6 : hz ≤ 6 := by omega
  have hnq : nq ≤ 3 := by rw [LQ.out]; exact hsh.2.2
  have HN1 : Hid (n1 = nq) := hide (by rw [L1.out, LQ.out, HS.out.len])
  clear hhz hsh
  go_wp2_with fail
  ((with_reducible refine (plzero_calls w1).mono ?_); rintro e w2 ⟨v2, rfl, o2, b2⟩)
  obtain ⟨s2, P2, q2, e2, P2', q2', e2', rfl, o2⟩ := o2.open_; have O2 := hide o2; clear o2
  have HL2 := hide (HL1.out.trans b2)
  have hs12 := b2.size
  clear b2 d0 d1 d2 d3 d4 d5
  go_upto_region 4 with fail
  obtain ⟨W3, hW3⟩ : ∃ W3, W3 = w2.alloc (Obj.cells #[Value.bool s2, Value.slice P2 q2 e2, Value.bool false, Value.slice P2' q2' e2'] 37) := ⟨_, rfl⟩
  obtain ⟨G, hG⟩ : ∃ G, G = w2.heap.size := ⟨_, rfl⟩
  have hb : Later w2 W3 := by rw [hW3]; exact (Later.refl _).alloc _
  have hr : Row W3 G 37 [.bool s2, .slice P2 q2 e2, .bool false, .slice P2' q2' e2'] := by rw [hW3, hG]; exact Row.new _ _ _
  have hsz : W3.heap.size = G + 1 := by rw [hW3, hG]; simp
  rw [← hW3, ← hG]
  have HL3 : Hid (Later w2 W3) := hide hb
  have SA0 : Hid (SumAt W3 w1.heap.size G 0 1) := hide ⟨_, _, _, _, _, _, _, hr, ((On.ownR O2.out).mono (fun b hb1 hb => ⟨hb1, by omega⟩)).later hb, sized_0⟩
  have hG2 : w2.heap.size ≤ G := by omega
  have hB2 := HL2.out.size
  clear hb hr hsz hW3 hG
  go_wp2_with fail
  go_loopw [22] (fun iv wr => ∃ j : Nat, j ≤ nq ∧ iv = .int .i64 (j : Int) ∧ SumAt wr w1.heap.size G (costTo D t j) (1 + 270 * j) ∧ Later w2 wr) (fun iv _ => (nq - intOf iv).toNat)
  case atStart => exact ⟨0, by omega, rfl, SA0.out, HL3.out⟩
  case round =>
    obtain ⟨j, hj, rfl, hsa, hL⟩ := hrel
    have HL := hide hL
    have HSA := hide hsa
    clear hL hsa
    have r_d := R0.out.later (HL2.out.trans HL.out)
    have d0 := r_d.cell (i := 0) rfl; have d1 := r_d.cell (i := 1) rfl; have d2 := r_d.cell (i := 2) rfl; have d3 := r_d.cell (i := 3) rfl; have d4 := r_d.cell (i := 4) rfl; have d5 := r_d.cell (i := 5) rfl
    clear r_d
    by_cases hjn : j < nq
    · obtain ⟨r, hr⟩ : ∃ r, t[j]? = some r := ⟨t[j]'(by have := LQ.out; omega), List.getElem?_eq_getElem _⟩
      obtain ⟨x, hx⟩ : ∃ x, D.items[j]? = some x := ⟨D.items[j]'(by have := L1.out; have := HN1.out; omega), List.getElem?_eq_getElem _⟩
      obtain ⟨b1, off1, Ar, nr, cr, rfl, x1', hrow⟩ := HQ.out.grid.at_ hr
      obtain ⟨b2, off2, rfl, e1, e2, e3, x0, xx1, x2, x3, x4, x5, x6, x7, x8, x9, x10, x11, m1, m2, m3⟩ := H.out.its.at12 hx
      have HR := hide hr; have HX := hide hx; have HROW := hide hrow; have M1 := hide m1; have M2 := hide m2; have M3 := hide m3
      have hrz := HS.out.rows r (List.mem_of_getElem? hr)
      have HRZ := hide hrz
      have HRL : Hid (r.length = hz) := hide (by have := hrz.1; have := HHZ.out; omega)
      have hnr : nr ≤ 1000 := by have := hrow.len_; have := HRL.out; omega
      have HNR : Hid (nr = hz) := hide (by rw [hrow.len_]; exact HRL.out)
      have HLW := hide (B0.out.trans (HL2.out.trans HL.out))
      have x1 := Later.cell HLW.out x1'
      have x0 := Later.cell HLW.out x0; have xx1 := Later.cell HLW.out xx1; have x2 := Later.cell HLW.out x2; have x3 := Later.cell HLW.out x3; have x4 := Later.cell HLW.out x4; have x5 := Later.cell HLW.out x5; have x6 := Later.cell HLW.out x6; have x7 := Later.cell HLW.out x7; have x8 := Later.cell HLW.out x8; have x9 := Later.cell HLW.out x9; have x10 := Later.cell HLW.out x10; have x11 := Later.cell HLW.out x11
      have hj0 : (0 : Int) ≤ (j : Int) := by omega
      have hj1 : (j : Int) < nq := by omega
      have hj2 : (j : Int) < n1 := by have := HN1.out; omega
      have HCT : Hid (costTo D t (j+1) = costTo D t j + costRow D x r j hz) := hide (by
        show costTo D t j + costRow D (D.items.getD j item0) (t.getD j []) j D.hor.toNat = _
        rw [item_at hx, row_at hr, HZJ.out])
      obtain ⟨S, hS⟩ : ∃ S, costTo D t j = S := ⟨_, rfl⟩
      rw [hS] at HCT HSA
      clear hr hx hrow m1 m2 m3 hrz hS x1'
      go_upto_region 9 with fail
      clear d0 d1 d2 d3 d4 d5 x1 x0 xx1 x2 x3 x4 x5 x6 x7 x8 x9 x10 x11
      obtain ⟨W4, hW4⟩ : ∃ W4, W4 = wr.alloc (Obj.cells #[Value.bool e1.a, Value.slice e1.A e1.n e1.c, Value.bool e1.a', Value.slice e1.A' e1.n' e1.c', Value.bool e2.a, Value.slice e2.A e2.n e2.c, Value.bool e2.a', Value.slice e2.A' e2.n' e2.c', Value.bool e3.a, Value.slice e3.A e3.n e3.c, Value.bool e3.a', Value.slice e3.A' e3.n' e3.c'] 62) := ⟨_, rfl⟩
      obtain ⟨gi, hgi⟩ : ∃ gi, gi = wr.heap.size := ⟨_, rfl⟩
      have hb : Later wr W4 := by rw [hW4]; exact (Later.refl _).alloc _
      have hr : Row W4 gi 62 [.bool e1.a, .slice e1.A e1.n e1.c, .bool e1.a', .slice e1.A' e1.n' e1.c', .bool e2.a, .slice e2.A e2.n e2.c, .bool e2.a', .slice e2.A' e2.n' e2.c', .bool e3.a, .slice e3.A e3.n e3.c, .bool e3.a', .slice e3.A' e3.n' e3.c'] := by rw [hW4, hgi]; exact Row.new _ _ _
      have hsz : W4.heap.size = gi + 1 := by rw [hW4, hgi]; simp
      rw [← hW4, ← hgi]
      have HL4 := hide hb
      have HRI := hide hr
      have hgiG : gi ≠ G := by have := HSA.out.lt; omega
      have hgsz : G < W4.heap.size := by have := HSA.out.lt; omega
      clear hb hr hW4 hgi hsz
      have r_d := R0.out.later (HL2.out.trans (HL.out.trans HL4.out))
      have d0 := r_d.cell (i := 0) rfl; have d1 := r_d.cell (i := 1) rfl; have d2 := r_d.cell (i := 2) rfl; have d3 := r_d.cell (i := 3) rfl; have d4 := r_d.cell (i := 4) rfl; have d5 := r_d.cell (i := 5) rfl
      clear r_d
      go_wp2_with fail
      ((with_reducible refine (pllevels_calls _ _ _ _ _ _ _ _ _ _ _ _ _ D (H.out.later (HLW.out.trans HL4.out)) _ _ _ r (HROW.out.later (HLW.out.trans HL4.out)) (by rw [HRL.out]; omega) HRZ.out.2 j HS.out.may).mono ?_); rintro e w5 ⟨v5, rfl, o5, b5⟩)
      obtain ⟨Al, nl, cl, rfl, hnl, -, -, -⟩ := o5.now.form
      rw [levL_len, HRL.out] at hnl
      subst hnl
      have ON5 := hide o5
      have HL5 := hide ((HL.out.trans HL4.out).trans b5)
      have SA5 := hide ((HSA.out.later HL4.out).later b5)
      have RI5 := hide (HRI.out.later b5)
      clear o5 b5 d0 d1 d2 d3 d4 d5
      have hPG : ¬ (W4.heap.size ≤ G) := by omega
      go_wp2_with fail
      go_loopw [37] (fun iv wr => ∃ k : Nat, k ≤ nl ∧ iv = .int .i64 (k : Int) ∧ SumAt wr w1.heap.size G (S + costRow D x r j k) (1 + 270 * j + 45 * k) ∧ Later w2 wr ∧ Row wr gi 62 [.bool e1.a, .slice e1.A e1.n e1.c, .bool e1.a', .slice e1.A' e1.n' e1.c', .bool e2.a, .slice e2.A e2.n e2.c, .bool e2.a', .slice e2.A' e2.n' e2.c', .bool e3.a, .slice e3.A e3.n e3.c, .bool e3.a', .slice e3.A' e3.n' e3.c'] ∧ On wr (fun b => W4.heap.size ≤ b) (fun W => Sq 1 iCells W (.slice Al nl cl) (levL D r j r.length))) (fun iv _ => (nl - intOf iv).toNat)
      case atStart => exact ⟨0, by omega, rfl, by rw [show costRow D x r j 0 = 0 from rfl, Rat.add_zero]; exact SA5.out, HL5.out, RI5.out, ON5.out⟩
      case round =>
        obtain ⟨k, hk, rfl, hsa, hLx, hri, hon⟩ := hrel
        have HL0 := hide hLx
        have SA0' := hide hsa
        have RI0 := hide hri
        have ON0 := hide hon
        clear hLx hsa hri hon
        by_cases hkn : k < nl
        · obtain ⟨z, hz'⟩ : ∃ z, r[k]? = some z := ⟨r[k]'(by have := HRL.out; omega), List.getElem?_eq_getElem _⟩
          obtain ⟨b3, off3, rfl, z1⟩ := (HROW.out.later (B0.out.trans (HL2.out.trans HL0.out))).at1 hz'
          have hzz := getD_at hz'
          obtain ⟨lv, hlv⟩ : ∃ lv, lev D r j (k+1) = lv := ⟨_, rfl⟩
          have hll : (levL D r j r.length)[k]? = some lv := by
            rw [HRL.out]; unfold levL
            rw [List.getElem?_map, List.getElem?_range (by omega), Option.map_some, hlv]
          obtain ⟨b4, off4, rfl, y1⟩ := ON0.out.now.at1 hll
          have hlb := lev_bound D r j H.out.ol HRZ.out.2 (k+1)
          rw [hlv] at hlb
          have hlb2 : -100000000 ≤ lv ∧ lv ≤ 100000000 := by omega
          have HST : Hid (costRow D x r j (k+1) = costRow D x r j k + termC x z lv) := hide (by
            show costRow D x r j k + termC x (r.getD k 0) (lev D r j (k+1)) = _
            rw [hzz, hlv])
          obtain ⟨Q, hQ⟩ : ∃ Q, costRow D x r j k = Q := ⟨_, rfl⟩
          rw [hQ] at HST SA0'
          have hk0 : (0 : Int) ≤ (k : Int) := by omega
          have hk1 : (k : Int) < nl := by omega
          have hk2 : (k : Int) < nr := by have := HNR.out; omega
          have hw1 : IntKind.i64.wrap (-lv) = -lv := IntWalk.i64_in _ (by omega)
          clear hz' hzz hlv hll hlb hQ
          have r_d := RI0.out
          have q0 := r_d.cell (i := 0) rfl; have q1 := r_d.cell (i := 1) rfl; have q2 := r_d.cell (i := 2) rfl; have q3 := r_d.cell (i := 3) rfl; have q4 := r_d.cell (i := 4) rfl; have q5 := r_d.cell (i := 5) rfl; have q6 := r_d.cell (i := 6) rfl; have q7 := r_d.cell (i := 7) rfl; have q8 := r_d.cell (i := 8) rfl; have q9 := r_d.cell (i := 9) rfl; have q10 := r_d.cell (i := 10) rfl; have q11 := r_d.cell (i := 11) rfl
          clear r_d
          by_cases g : 0 < z
          · have t1 : decide (0 < z) = true := by simpa using g
            have SAwr := SA0'; have HLwr := HL0; have RIwr := RI0; have ONwr := ON0
            go_wp2_with fail
            ((with_reducible refine (plcost1_calls wr _ x.s (RawR.later (ENum.raw M1.out) (B0.out.trans (HL2.out.trans HLwr.out))) 1 (by omega) (by omega) w1.heap.size G _ _ SAwr.out (by have := HLwr.out.size; omega) (by omega)).mono ?_); rintro e w6 ⟨⟨vw6, rfl⟩, sa, st⟩)
            have SAw6 := hide sa
            have HLw6 := hide (st.later HLwr.out hG2)
            have RIw6 := hide (st.row RIwr.out hgiG)
            have ONw6 := hide (On.stp ONwr.out st hPG)
            clear sa st
            clear q0 q1 q2 q3 q4 q5 q6 q7 q8 q9 q10 q11
            have r_d := RIw6.out
            have q0 := r_d.cell (i := 0) rfl; have q1 := r_d.cell (i := 1) rfl; have q2 := r_d.cell (i := 2) rfl; have q3 := r_d.cell (i := 3) rfl; have q4 := r_d.cell (i := 4) rfl; have q5 := r_d.cell (i := 5) rfl; have q6 := r_d.cell (i := 6) rfl; have q7 := r_d.cell (i := 7) rfl; have q8 := r_d.cell (i := 8) rfl; have q9 := r_d.cell (i := 9) rfl; have q10 := r_d.cell (i := 10) rfl; have q11 := r_d.cell (i := 11) rfl
            clear r_d
            go_wp2_with fail
            ((with_reducible refine (plcost1_calls w6 _ x.h (RawR.later (ENum.raw M2.out) (B0.out.trans (HL2.out.trans HLw6.out))) _ (by omega) (by omega) w1.heap.size G _ _ SAw6.out (by have := HLw6.out.size; omega) (by omega)).mono ?_); rintro e w7 ⟨⟨vw7, rfl⟩, sa, st⟩)
            have SAw7 := hide sa
            have HLw7 := hide (st.later HLw6.out hG2)
            have RIw7 := hide (st.row RIw6.out hgiG)
            have ONw7 := hide (On.stp ONw6.out st hPG)
            clear sa st
            clear q0 q1 q2 q3 q4 q5 q6 q7 q8 q9 q10 q11
            have r_d := RIw7.out
            have q0 := r_d.cell (i := 0) rfl; have q1 := r_d.cell (i := 1) rfl; have q2 := r_d.cell (i := 2) rfl; have q3 := r_d.cell (i := 3) rfl; have q4 := r_d.cell (i := 4) rfl; have q5 := r_d.cell (i := 5) rfl; have q6 := r_d.cell (i := 6) rfl; have q7 := r_d.cell (i := 7) rfl; have q8 := r_d.cell (i := 8) rfl; have q9 := r_d.cell (i := 9) rfl; have q10 := r_d.cell (i := 10) rfl; have q11 := r_d.cell (i := 11) rfl
            clear r_d
            go_wp2_with fail
            ((with_reducible refine (plcost1_calls w7 _ x.b (RawR.later (ENum.raw M3.out) (B0.out.trans (HL2.out.trans HLw7.out))) _ (by omega) (by omega) w1.heap.size G _ _ SAw7.out (by have := HLw7.out.size; omega) (by omega)).mono ?_); rintro e w8 ⟨⟨vw8, rfl⟩, sa, st⟩)
            have SAw8 := hide sa
            have HLw8 := hide (st.later HLw7.out hG2)
            have RIw8 := hide (st.row RIw7.out hgiG)
            have ONw8 := hide (On.stp ONw7.out st hPG)
            clear sa st
            clear q0 q1 q2 q3 q4 q5 q6 q7 q8 q9 q10 q11
            have HEQ : Hid (S + Q + x.s * ((1 : Int) : Rat) + x.h * ((max lv 0 : Int) : Rat) + x.b * ((max (-lv) 0 : Int) : Rat) = S + costRow D x r j (k+1)) := hide (by
              rw [HST.out]; unfold termC; rw [if_pos g]
              generalize ((max lv 0 : Int) : Rat) = m1
              generalize ((max (-lv) 0 : Int) : Rat) = m2
              have : ((1 : Int) : Rat) = 1 := rfl
              grind)
            go_wp2_with fail
            exact ⟨⟨k+1, by omega, by go_num, by rw [← HEQ.out]; exact SAw8.out.mono (by omega), HLw8.out, RIw8.out, ONw8.out⟩, by simp [intOf]; omega⟩
          · have t1 : decide (0 < z) = false := by simpa using g
            have SAwr := SA0'; have HLwr := HL0; have RIwr := RI0; have ONwr := ON0
            go_wp2_with fail
            ((with_reducible refine (plcost1_calls wr _ x.h (RawR.later (ENum.raw M2.out) (B0.out.trans (HL2.out.trans HLwr.out))) _ (by omega) (by omega) w1.heap.size G _ _ SAwr.out (by have := HLwr.out.size; omega) (by omega)).mono ?_); rintro e w7 ⟨⟨vw7, rfl⟩, sa, st⟩)
            have SAw7 := hide sa
            have HLw7 := hide (st.later HLwr.out hG2)
            have RIw7 := hide (st.row RIwr.out hgiG)
            have ONw7 := hide (On.stp ONwr.out st hPG)
            clear sa st
            clear q0 q1 q2 q3 q4 q5 q6 q7 q8 q9 q10 q11
            have r_d := RIw7.out
            have q0 := r_d.cell (i := 0) rfl; have q1 := r_d.cell (i := 1) rfl; have q2 := r_d.cell (i := 2) rfl; have q3 := r_d.cell (i := 3) rfl; have q4 := r_d.cell (i := 4) rfl; have q5 := r_d.cell (i := 5) rfl; have q6 := r_d.cell (i := 6) rfl; have q7 := r_d.cell (i := 7) rfl; have q8 := r_d.cell (i := 8) rfl; have q9 := r_d.cell (i := 9) rfl; have q10 := r_d.cell (i := 10) rfl; have q11 := r_d.cell (i := 11) rfl
            clear r_d
            go_wp2_with fail
            ((with_reducible refine (plcost1_calls w7 _ x.b (RawR.later (ENum.raw M3.out) (B0.out.trans (HL2.out.trans HLw7.out))) _ (by omega) (by omega) w1.heap.size G _ _ SAw7.out (by have := HLw7.out.size; omega) (by omega)).mono ?_); rintro e w8 ⟨⟨vw8, rfl⟩, sa, st⟩)
            have SAw8 := hide sa
            have HLw8 := hide (st.later HLw7.out hG2)
            have RIw8 := hide (st.row RIw7.out hgiG)
            have ONw8 := hide (On.stp ONw7.out st hPG)
            clear sa st
            clear q0 q1 q2 q3 q4 q5 q6 q7 q8 q9 q10 q11
            have HEQ : Hid (S + Q + x.h * ((max lv 0 : Int) : Rat) + x.b * ((max (-lv) 0 : Int) : Rat) = S + costRow D x r j (k+1)) := hide (by
              rw [HST.out]; unfold termC; rw [if_neg (by omega)]
              generalize ((max lv 0 : Int) : Rat) = m1
              generalize ((max (-lv) 0 : Int) : Rat) = m2
              skip
              grind)
            go_wp2_with fail
            exact ⟨⟨k+1, by omega, by go_num, by rw [← HEQ.out]; exact SAw8.out.mono (by omega), HLw8.out, RIw8.out, ONw8.out⟩, by simp [intOf]; omega⟩
        · obtain rfl : k = nl := by omega
          have hk1 : ¬ (k : Int) < k := by omega
          go_wp2_with fail
          exact ⟨⟨j+1, by omega, by go_num, by rw [HCT.out]; exact SA0'.out.mono (by omega), HL0.out⟩, by simp [intOf]; omega⟩
    · obtain rfl : j = nq := by omega
      have hj1 : ¬ (j : Int) < j := by omega
      have HE : Hid (costTo D t j = zc) := hide (by rw [HZ.out, LQ.out])
      rw [HE.out] at HSA
      obtain ⟨ss, As, ns, cs, As', ns', cs', h1, h2, h3⟩ := HSA.out
      obtain ⟨y1, y2, y3, y4, -⟩ := row_cells4 h1
      have hrow := R1.out.later (HL2.out.trans HL.out)
      obtain ⟨z1, z2, z3, z4, z5, z6, z7, z8⟩ := row_cells4 hrow
      have HR := hide hrow; have H2 := hide h2; have H3 := hide h3
      clear hrow h1 h2 h3 d0 d1 d2 d3 d4 d5
      go_wp2_with fail
      refine bodyPost_ret (results_rat_bool rfl rfl rfl (HR.out.four _ _ _ _)) rfl ?_
      have oo := Only.four (w.heap.size + 1) wr (.bool ss) (.slice As ns cs) (.bool false) (.slice As' ns' cs')
      exact ⟨_, rfl, (H2.out.only oo (by omega)).now, H3.out.mono (by omega), (B0.out.trans (HL2.out.trans HL.out)).only oo (by omega)⟩
end Go.Proofs.YthncinngkfflgaaGreat
