import Derived.Test.YthncinngkfflgaaGreatM30

/- Proofs of standard forms: each column by row numbers. -/
set_option linter.unusedVariables false
set_option linter.unusedSimpArgs false
set_option maxRecDepth 100000
namespace Go.Proofs.YthncinngkfflgaaGreat
open Go.RowKit Go.Shelf
attribute [local go_sem ↓] Go.wp_at_zero Go.wp_at_succ

/-- the first j of n numbers, at g, are 0 -/
def ZRow (w : World) (lo g n j : Nat) : Prop := ∃ cs, Row w g 37 cs ∧ cs.length = n * 4 ∧ lo ≤ g ∧ ∀ i, i < j → ∃ s A m c A' m' c', cs[i * 4]? = some (.bool s) ∧ cs[i * 4 + 1]? = some (.slice A m c) ∧ cs[i * 4 + 2]? = some (.bool false) ∧ cs[i * 4 + 3]? = some (.slice A' m' c') ∧ On w (fun b => lo ≤ b ∧ b ≠ g) (fun W => OwnR W 0 (.agg #[.bool s, .slice A m c, .bool false, .slice A' m' c']) 0)
theorem ZRow.later {w w' : World} {lo g n j : Nat} (h : ZRow w lo g n j) (hb : Later w w') : ZRow w' lo g n j := by
  obtain ⟨cs, h1, h2, h3, h4⟩ := h
  refine ⟨cs, h1.later hb, h2, h3, fun i hi => ?_⟩
  obtain ⟨s, A, m, c, A', m', c', x1, x2, x3, x4, ho⟩ := h4 i hi
  exact ⟨s, A, m, c, A', m', c', x1, x2, x3, x4, ho.later hb⟩
theorem ZRow.room {w : World} {lo g n j : Nat} (h : ZRow w lo g n j) {i a : Nat} (hi : i < n) (ha : a = i * 4) : ∃ y0 y1 y2 y3, w.cell? ⟨g, a, none⟩ = some y0 ∧ w.cell? ⟨g, a + 1, none⟩ = some y1 ∧ w.cell? ⟨g, a + 2, none⟩ = some y2 ∧ w.cell? ⟨g, a + 3, none⟩ = some y3 ∧ ∀ k, w.frozen? ⟨g, k, none⟩ = false := by
  obtain ⟨cs, h1, h2, -⟩ := h
  subst ha
  exact ⟨_, _, _, _, h1.cell (List.getElem?_eq_getElem (by omega)), h1.cell (List.getElem?_eq_getElem (by omega)), h1.cell (List.getElem?_eq_getElem (by omega)), h1.cell (List.getElem?_eq_getElem (by omega)), fun k => h1.frozen k⟩
theorem ZRow.put {w : World} {lo g n j a : Nat} {s : Bool} {A A' : Option Addr} {m c m' c' : Nat} (h : ZRow w lo g n j) (hj : j < n) (ha : a = j * 4) (ho : On w (fun b => lo ≤ b ∧ b ≠ g) (fun W => OwnR W 0 (.agg #[.bool s, .slice A m c, .bool false, .slice A' m' c']) 0)) :
    ZRow ((((w.setCell ⟨g, a, none⟩ (.bool s)).setCell ⟨g, a + 1, none⟩ (.slice A m c)).setCell ⟨g, a + 2, none⟩ (.bool false)).setCell ⟨g, a + 3, none⟩ (.slice A' m' c')) lo g n (j + 1) := by
  obtain ⟨cs, h1, h2, h3, h4⟩ := h
  subst ha
  have oo : Only g w ((((w.setCell ⟨g, j * 4, none⟩ (.bool s)).setCell ⟨g, j * 4 + 1, none⟩ (.slice A m c)).setCell ⟨g, j * 4 + 2, none⟩ (.bool false)).setCell ⟨g, j * 4 + 3, none⟩ (.slice A' m' c')) := (((Only.one g w _ _).set _ _).set _ _).set _ _
  refine ⟨_, (((h1.set_ _ (.bool s)).set_ _ (.slice A m c)).set_ _ (.bool false)).set_ _ (.slice A' m' c'), by simp [h2], h3, fun i hi => ?_⟩
  by_cases hij : i = j
  · subst hij
    refine ⟨s, A, m, c, A', m', c', ?_, ?_, ?_, ?_, ho.only oo (fun h => h.2 rfl)⟩
    · rw [List.getElem?_set_ne (by omega), List.getElem?_set_ne (by omega), List.getElem?_set_ne (by omega), List.getElem?_set_self (by omega)]
    · rw [List.getElem?_set_ne (by omega), List.getElem?_set_ne (by omega), List.getElem?_set_self (by simp; omega)]
    · rw [List.getElem?_set_ne (by omega), List.getElem?_set_self (by simp; omega)]
    · rw [List.getElem?_set_self (by simp; omega)]
  · obtain ⟨t, B, k, d, B', k', d', x1, x2, x3, x4, hx⟩ := h4 i (by omega)
    refine ⟨t, B, k, d, B', k', d', ?_, ?_, ?_, ?_, hx.only oo (fun h => h.2 rfl)⟩
    · rw [List.getElem?_set_ne (by omega), List.getElem?_set_ne (by omega), List.getElem?_set_ne (by omega), List.getElem?_set_ne (by omega)]; exact x1
    · rw [List.getElem?_set_ne (by omega), List.getElem?_set_ne (by omega), List.getElem?_set_ne (by omega), List.getElem?_set_ne (by omega)]; exact x2
    · rw [List.getElem?_set_ne (by omega), List.getElem?_set_ne (by omega), List.getElem?_set_ne (by omega), List.getElem?_set_ne (by omega)]; exact x3
    · rw [List.getElem?_set_ne (by omega), List.getElem?_set_ne (by omega), List.getElem?_set_ne (by omega), List.getElem?_set_ne (by omega)]; exact x4
theorem ZRow.rats {w : World} {lo g n : Nat} (h : ZRow w lo g n n) (hm : n ≤ maxLen) : OwnRats w lo (.slice (some ⟨g, 0, none⟩) n n) (List.replicate n 0) := by
  obtain ⟨cs, h1, h2, h3, h4⟩ := h
  have key : ∀ i : Nat, ∃ d : Bool × (Option Addr × Nat × Nat) × (Option Addr × Nat × Nat), i < n → cs[i * 4]? = some (.bool d.1) ∧ cs[i * 4 + 1]? = some (.slice d.2.1.1 d.2.1.2.1 d.2.1.2.2) ∧ cs[i * 4 + 2]? = some (.bool false) ∧ cs[i * 4 + 3]? = some (.slice d.2.2.1 d.2.2.2.1 d.2.2.2.2) ∧
      On w (fun b => lo ≤ b ∧ b ≠ g) (fun W => OwnR W 0 (.agg #[.bool d.1, .slice d.2.1.1 d.2.1.2.1 d.2.1.2.2, .bool false, .slice d.2.2.1 d.2.2.2.1 d.2.2.2.2]) 0) := fun i => by
    by_cases hi : i < n
    · obtain ⟨s, A, m, c, A', m', c', x1, x2, x3, x4, ho⟩ := h4 i hi
      exact ⟨(s, (A, m, c), (A', m', c')), fun _ => ⟨x1, x2, x3, x4, ho⟩⟩
    · exact ⟨(false, (none, 0, 0), (none, 0, 0)), fun h => absurd h hi⟩
  obtain ⟨d, hd⟩ := Classical.axiomOfChoice key
  have hl : On w (fun b => lo ≤ b) (fun W => ∀ i x, i < n → some (d i) = some x → OwnR W 0 (.agg #[.bool x.1, .slice x.2.1.1 x.2.1.2.1 x.2.1.2.2, .bool false, .slice x.2.2.1 x.2.2.2.1 x.2.2.2.2]) 0) :=
    On.list_ (T := fun i x W => OwnR W 0 (.agg #[.bool x.1, .slice x.2.1.1 x.2.1.2.1 x.2.1.2.2, .bool false, .slice x.2.2.1 x.2.2.2.1 x.2.2.2.2]) 0) n (fun i => some (d i)) (fun i x hi hx => by
      injection hx with hx; subst hx
      exact (hd i hi).2.2.2.2.mono (fun b hb _ => hb.1))
  have hr : On w (fun b => lo ≤ b) (fun W => Row W g 37 cs) := On.of_row h1 h3 (fun _ h => h)
  refine (hr.and hl).map fun W hW => ?_
  obtain ⟨hr, ho⟩ := hW
  refine ⟨some ⟨g, 0, none⟩, n, by simp, by simp, hm, fun i q hi => ?_⟩
  rw [List.getElem?_replicate] at hi
  split at hi
  · rename_i hin
    injection hi with hi; subst hi
    obtain ⟨x1, x2, x3, x4, -⟩ := hd i hin
    exact ⟨g, 0, (d i).1, _, _, _, false, _, _, _, rfl, hr.cell (by simpa using x1), hr.cell (by simpa using x2), hr.cell (by simpa using x3), hr.cell (by simpa using x4), ho i (d i) hin rfl⟩
  · cases hi
/-- 'make([]api.Rat, n)', its row -/
theorem wpList_make_z {w : World} {ops : Array Oper} {rest : List Oper} {o : Oper} {a : Act} {Q : Exit → Act → World → Prop}
    (hg : o.guard = none) (l : Operand) (hop : o.op = Op.makeSlice 23 l l) (L : Int) (n : Nat) (hl : a.eval l = .int .i64 L) (hL : L = (n : Int)) (b2 : n ≤ 1000000000)
    (hK : ∀ w', ZRow w' w.heap.size w.heap.size n 0 → Later w w' → wpList Tryz.prog ops Q rest (a.put o.dst (.slice (some ⟨w.heap.size, 0, none⟩) n n)) w') :
    wpList Tryz.prog ops Q (o :: rest) a w := by
  obtain ⟨i, hi, hz, hs, hb⟩ := info_parts info_rat
  refine wpList_make_full w hg l l 23 hop w.heap.size 37 i (.agg #[.bool false, .slice none 0 0, .bool false, .slice none 0 0]) 4 Tryz.underlying23 hi hz hs .i64 .i64 L L n hl hl hL hL (by rw [hb]; omega) (by unfold maxLen; omega) (Nat.le_refl _) ?_
  intro w' hown hgr
  refine hK w' ?_ (Later.grown (Later.refl w) hgr (fun k hk => by cases hk))
  obtain ⟨hlen, hh⟩ := hown
  rcases hh with ⟨e, h0⟩ | ⟨g, cap, cur, e, hlo, hg2, hn, hm, hsz, ht⟩
  · cases e
  · injection e with e1 e2 e3
    injection e1 with e1; injection e1 with e1
    subst e1 e3
    exact ⟨cur.toList, by unfold Row; simpa using hg2, by simpa using hsz, hlo, fun i hi => by omega⟩

/-- each column by row numbers -/
def colsL (A : List (List Rat)) (u : List Rat) (n : Nat) : List Rat := (List.zip A u).foldl (fun o p => axpyL o p.1 p.2) (List.replicate n 0)
theorem colsL_step {A : List (List Rat)} {u : List Rat} {n j : Nat} {r : List Rat} {x : Rat} (h1 : A[j]? = some r) (h2 : u[j]? = some x) : colsL (A.take (j + 1)) (u.take (j + 1)) n = axpyL (colsL (A.take j) (u.take j) n) r x := by
  unfold colsL
  have hl : (A.take j).length = (u.take j).length := by
    have e1 := (List.getElem?_eq_some_iff.1 h1).1
    have e2 := (List.getElem?_eq_some_iff.1 h2).1
    simp; omega
  rw [List.take_add_one, List.take_add_one, h1, h2]
  simp only [Option.toList_some]
  rw [List.zip_append hl, List.foldl_append]
  rfl
theorem colsL_len {A : List (List Rat)} {u : List Rat} {n : Nat} (h : ∀ r ∈ A, r.length = n) : (colsL A u n).length = n := by
  unfold colsL
  have : ∀ (l : List (List Rat × Rat)) (o : List Rat), (∀ p ∈ l, p.1.length = n) → o.length = n → (l.foldl (fun o p => axpyL o p.1 p.2) o).length = n := by
    intro l
    induction l with
    | nil => intro o _ ho; exact ho
    | cons p l ih =>
      intro o hp ho
      refine ih _ (fun q hq => hp q (by simp [hq])) ?_
      unfold axpyL
      rw [List.length_zipWith, ho, hp p (by simp), Nat.min_self]
  exact this _ _ (fun p hp => h _ (List.of_mem_zip hp).1) (by simp)
/-- whether there are columns by row numbers -/
def colOk (A : List (List Rat)) (B C : List Rat) (ok : Bool) (u : List Rat) : Bool := rightB A B C ok && decide (u.length = A.length)
def ColPost (w : World) (A : List (List Rat)) (B C : List Rat) (ok : Bool) (u : List Rat) (K : Nat) (e : Ending) (w' : World) : Prop :=
  Later w w' ∧ ((colOk A B C ok u = true ∧ ∃ v, e = .returned (.tuple #[v, .bool true]) ∧ OwnRats w' w.heap.size v (colsL A u C.length) ∧ ∀ x ∈ colsL A u C.length, Sized x K) ∨ (colOk A B C ok u = false ∧ e = .returned (.tuple #[.slice none 0 0, .bool false])))

set_option maxHeartbeats 8000000 in
theorem columns_calls (w : World) (vA vB vC vu : Value) (k m : Nat) (A : List (List Rat)) (B C u : List Rat) (ok : Bool) (hs : StdIn w vA vB vC k A B C ok) (hu : Rats (ERaw m) w vu u) (hm : m ≤ 1000) (hul : u.length ≤ 1000) :
    Calls Tryz.prog 43 #[.agg #[vA, vB, vC], vu] w (ColPost w A B C ok u 200000) := by
  have HS := hide hs; have HSZ := hide hs.sizes
  obtain ⟨A1, n1, c1, A2, n2, c2, A3, n3, c3, rfl, rfl, rfl, hn1, hn2, hn3⟩ := hs.form
  have HN1 := hide hn1; have HN2 := hide hn2; have HN3 := hide hn3
  clear hs hn1 hn2 hn3
  have HU := hide hu
  obtain ⟨A4, n4, c4, rfl, hn4, -⟩ := hu.form
  have HN4 := hide hn4; have HUL := hide hul; have HUS := hide hu.sized
  clear hu hn4 hul
  obtain ⟨u1, hu1⟩ : ∃ u, rightB A B C ok = u := ⟨_, rfl⟩
  have HU1 := hide hu1
  clear hu1
  obtain ⟨W0, hW0⟩ : ∃ W0, W0 = w.alloc (Obj.cells #[Value.slice A1 n1 c1, Value.slice A2 n2 c2, Value.slice A3 n3 c3] 25) := ⟨_, rfl⟩
  obtain ⟨hb0, r1, hsz0⟩ := boxes1 w [.slice A1 n1 c1, .slice A2 n2 c2, .slice A3 n3 c3] 25 hW0
  have B0 := hide hb0; have HW0 := hide hW0; have R0 := hide r1
  have d1 := r1.cell (i := 0) rfl; have d2 := r1.cell (i := 1) rfl; have d3 := r1.cell (i := 2) rfl
  clear r1 hb0 hW0 hsz0
  go_enter Tryz.func43, Tryz.ntmps43
  go_upto_region 1 with fail
  rw [← HW0.out]
  go_wp2_with fail
  clear d1 d2 d3
  have hrg := right_std (HS.out.later B0.out)
  rw [HU1.out] at hrg
  ((with_reducible refine hrg.mono ?_); rintro e w1 ⟨rfl, b1⟩)
  have HL1 := hide b1
  have hrs := R0.out.later HL1.out
  have d1 := hrs.cell (i := 0) rfl; have d2 := hrs.cell (i := 1) rfl; have d3 := hrs.cell (i := 2) rfl
  clear hrs
  clear b1 hrg
  cases u1 with
  | false =>
    go_wp2_with fail
    go_ret2
    exact ⟨B0.out.trans HL1.out, .inr ⟨by unfold colOk; rw [HU1.out]; rfl, rfl⟩⟩
  | true =>
  have HRF := hide (rightB_facts HU1.out)
  by_cases hlen : n4 = n1
  rotate_left
  · have t1 : ((n4 : Int) != (n1 : Int)) = true := by rw [bne_iff_ne]; omega
    have HF : Hid (colOk A B C ok u = false) := hide (by unfold colOk; rw [HU1.out, show decide (u.length = A.length) = false by simp; rw [← HN4.out, ← HN1.out]; exact hlen]; rfl)
    go_wp2_with fail
    go_ret2
    exact ⟨B0.out.trans HL1.out, .inr ⟨HF.out, rfl⟩⟩
  have t1 : ((n4 : Int) != (n1 : Int)) = false := by rw [hlen]; simp
  have HLEN : Hid (u.length = A.length) := hide (by rw [← HN4.out, ← HN1.out]; exact hlen)
  have HCK : Hid (colOk A B C ok u = true) := hide (by unfold colOk; rw [HU1.out, show decide (u.length = A.length) = true by simpa using HLEN.out]; rfl)
  have hn3 : n3 ≤ 80 := by rw [HN3.out]; exact HRF.out.2.1
  have hn1 : n1 ≤ 64 := by rw [HN1.out]; exact HRF.out.1
  have H41 := hide hlen
  clear hlen
  go_upto_region 4 with (at_make; refine wpList_make_z rfl (.tmp 23) rfl _ n3 rfl rfl (by omega) ?_; intro w2 hz2 hb2)
  have hg6 : w.heap.size ≤ w1.heap.size := (B0.out.trans HL1.out).size
  obtain ⟨g6, hg6e⟩ : ∃ g, g = w1.heap.size := ⟨_, rfl⟩
  rw [← hg6e] at hz2 hg6
  rw [← hg6e]
  have HZ2 : Hid (ZRow w2 g6 g6 n3 0) := hide hz2
  have HL2 := hide (HL1.out.trans hb2)
  have HG6 := hide hg6; have HGW := hide (hg6e ▸ HL1.out.size)
  clear hz2 hb2 hg6 hg6e d1 d2 d3
  go_wp2_with fail
  go_loopw [27] (fun i wr => ∃ j : Nat, j ≤ n3 ∧ i = .int .i64 (j : Int) ∧ Hid (ZRow wr g6 g6 n3 j) ∧ Later W0 wr) (fun i _ => (n3 - intOf i).toNat)
  case atStart => exact ⟨0, by omega, rfl, HZ2, HL2.out⟩
  case round =>
    obtain ⟨j, hj, rfl, hz, hL⟩ := hrel
    have HL := hide hL
    clear hL
    by_cases hjn : j < n3
    · have hj0 : (0 : Int) ≤ (j : Int) := by omega
      have hj1 : (j : Int) < n3 := by omega
      go_wp2_with fail
      ((with_reducible refine (czero_calls wr).mono ?_); rintro e w3 ⟨v3, rfl, o3, b3⟩)
      obtain ⟨s3, P3, q3, e3, P3', q3', e3', rfl, o3⟩ := o3.open_; have O3 := hide o3; clear o3
      have hzl := hz.out.later b3
      obtain ⟨y0, y1, y2, y3, x0, x1, x2, x3, hfz⟩ := hzl.room hjn rfl
      have f0 := hfz (j * 4); have f1 := hfz (j * 4 + 1); have f2 := hfz (j * 4 + 2); have f3 := hfz (j * 4 + 3)
      have hgl : g6 < wr.heap.size := by obtain ⟨cs, h1, -⟩ := hz.out; exact h1.lt
      have HO : Hid (On w3 (fun b => g6 ≤ b ∧ b ≠ g6) (fun W => OwnR W 0 (.agg #[.bool s3, .slice P3 q3 e3, .bool false, .slice P3' q3' e3']) 0)) := hide ((On.ownR O3.out).mono (fun b hb _ => ⟨by omega, by omega⟩))
      have HZL := hide hzl; have HL3 := hide (HL.out.trans b3)
      clear hzl b3 hfz hgl
      go_upto_region 8 with fail
      obtain ⟨w4, hw4⟩ : ∃ w4, w4 = ((((w3.setCell ⟨g6, j * 4, none⟩ (.bool s3)).setCell ⟨g6, j * 4 + 1, none⟩ (.slice P3 q3 e3)).setCell ⟨g6, j * 4 + 2, none⟩ (.bool false)).setCell ⟨g6, j * 4 + 3, none⟩ (.slice P3' q3' e3')) := ⟨_, rfl⟩
      have HZ4 : Hid (ZRow w4 g6 g6 n3 (j + 1)) := hide (by rw [hw4]; exact HZL.out.put hjn rfl HO.out)
      have HL4 : Hid (Later W0 w4) := hide (by rw [hw4]; exact HL3.out.only ((((Only.one g6 w3 _ _).set _ _).set _ _).set _ _) HGW.out)
      rw [← hw4]
      clear hw4 x0 x1 x2 x3 f0 f1 f2 f3
      go_wp2_with fail
      exact ⟨⟨j+1, by omega, by go_num, HZ4, HL4.out⟩, by simp [intOf]; omega⟩
    · obtain rfl : n3 = j := by omega
      have HZO := hide (hz.out.rats (by unfold maxLen; omega))
      have hrs := R0.out.later HL.out
      have d1 := hrs.cell (i := 0) rfl; have d2 := hrs.cell (i := 1) rfl; have d3 := hrs.cell (i := 2) rfl
      clear hrs
      go_wp2_with fail
      clear d1 d2 d3
      have hE0 : colsL (A.take 0) (u.take 0) n3 = List.replicate n3 0 := rfl
      have HO0 : Hid (OwnRats wr w.heap.size (.slice (some ⟨g6, 0, none⟩) n3 n3) (colsL (A.take 0) (u.take 0) n3)) := hide (by rw [hE0]; exact HZO.out.weaken (by have := HG6.out; have := HGW.out; have := B0.out.size; omega))
      have HZ0 : Hid (∀ x ∈ colsL (A.take 0) (u.take 0) n3, Sized x (1 + 0 * 3000)) := hide (by rw [hE0]; intro x hx; rw [List.eq_of_mem_replicate hx]; exact sized_0.mono (by omega))
      clear hE0 hz
      go_loopw [6, 38] (fun ov iv wr => ∃ j : Nat, j ≤ n1 ∧ iv = .int .i64 (j : Int) ∧ Hid (OwnRats wr w.heap.size ov (colsL (A.take j) (u.take j) n3)) ∧ Hid (∀ x ∈ colsL (A.take j) (u.take j) n3, Sized x (1 + j * 3000)) ∧ Later W0 wr) (fun _ iv _ => (n1 - intOf iv).toNat)
      case atStart => exact ⟨0, by omega, rfl, HO0, HZ0, HL.out⟩
      case round =>
        obtain ⟨j, hj, rfl, ho, hsz, hL⟩ := hrel
        have HL2 := hide hL
        clear hL
        obtain ⟨A7, n7, c7, rfl, -⟩ := (On.now ho.out).form
        by_cases hjn : j < n1
        · obtain ⟨row, hrow⟩ : ∃ row, A[j]? = some row := ⟨A[j]'(by have := HN1.out; omega), List.getElem?_eq_getElem _⟩
          obtain ⟨x, hx⟩ : ∃ x, u[j]? = some x := ⟨u[j]'(by have := HN1.out; have := HLEN.out; omega), List.getElem?_eq_getElem _⟩
          obtain ⟨b1, off1, A6, n6, c6, rfl, x0, hrr⟩ := (HS.out.later (B0.out.trans HL2.out)).tab.at_ hrow
          obtain ⟨b2, off2, sx, X, nx, cx, sx', X', nx', cx', rfl, y1, y2, y3, y4, ey⟩ := (HU.out.later ERaw.later (B0.out.trans HL2.out)).at_ hx
          have HR : Hid (Rats (ERaw k) wr (.slice A6 n6 c6) row) := hide hrr
          have HEY : Hid (RawR wr (.agg #[.bool sx, .slice X nx cx, .bool sx', .slice X' nx' cx']) x m) := hide ey
          have HSTEP := hide (colsL_step (n := n3) hrow hx)
          have hrl := HRF.out.2.2.2.1 row (List.mem_of_getElem? hrow)
          have HRL : Hid (row.length = C.length) := hide hrl
          have hcl : (colsL (A.take j) (u.take j) n3).length = n3 := colsL_len (fun r hr => by rw [HN3.out]; exact HRF.out.2.2.2.1 r (List.mem_of_mem_take hr))
          have HCL := hide hcl
          have hj0 : (0 : Int) ≤ (j : Int) := by omega
          have hj1 : (j : Int) < n1 := by omega
          have hj2 : (j : Int) < n4 := by have := H41.out; omega
          have hk1 := HSZ.out.1
          have hor := On.now ho.out
          have HOR : Hid (Rats (ERaw (1 + j * 3000)) wr (.slice A7 n7 c7) (colsL (A.take j) (u.take j) n3)) := hide (hor.map fun v q hq he => OwnR.raw (B := 0) he (hsz.out q hq))
          clear hor hrr hrow hx ey hrl hcl
          go_wp2_with fail
          ((with_reducible refine (addtimes_calls wr _ _ _ (colsL (A.take j) (u.take j) n3) row x (1 + j * 3000) k m HOR.out HR.out HEY.out (by rw [HCL.out, HRL.out, HN3.out]) (by rw [HCL.out]; omega) (by omega)).mono ?_); rintro e w9 ⟨v9, ok9, rfl, ⟨o9, rfl⟩, b9⟩)
          have HO9 : Hid (OwnRats w9 w.heap.size v9 (colsL (A.take (j + 1)) (u.take (j + 1)) n3)) := hide (by rw [HSTEP.out]; exact o9.weaken (by have := (B0.out.trans HL2.out).size; omega))
          have HZ9 : Hid (∀ x ∈ colsL (A.take (j + 1)) (u.take (j + 1)) n3, Sized x (1 + (j + 1) * 3000)) := hide (by
            rw [HSTEP.out]
            intro z hz
            exact (sized_axpy hsz.out HR.out.sized (RawR.sized HEY.out) z hz).mono (by omega))
          obtain ⟨A9, n9, c9, rfl, -⟩ := (On.now o9).form
          have HL9 := hide (HL2.out.trans b9)
          clear o9 b9 x0 y1 y2 y3 y4
          go_wp2_with fail
          exact ⟨⟨j+1, by omega, by go_num, HO9, HZ9, HL9.out⟩, by simp [intOf]; omega⟩
        · obtain rfl : n1 = j := by omega
          have e1 : A.take n1 = A := by rw [HN1.out]; exact List.take_length
          have e2 : u.take n1 = u := by rw [HN1.out, ← HLEN.out]; exact List.take_length
          have HO9 : Hid (OwnRats wr w.heap.size (.slice A7 n7 c7) (colsL A u C.length)) := hide (by have := ho.out; rw [e1, e2, HN3.out] at this; exact this)
          have HZ9 : Hid (∀ x ∈ colsL A u C.length, Sized x 200000) := hide (by
            have := hsz.out
            rw [e1, e2, HN3.out] at this
            exact fun x hx => (this x hx).mono (by omega))
          clear e1 e2
          go_wp2_with fail
          go_ret2
          exact ⟨B0.out.trans HL2.out, .inl ⟨HCK.out, _, rfl, HO9.out, HZ9.out⟩⟩
end Go.Proofs.YthncinngkfflgaaGreat


/- Proofs of standard forms: what is under, best, and none. -/
set_option linter.unusedVariables false
set_option linter.unusedSimpArgs false
set_option maxRecDepth 100000
namespace Go.Proofs.YthncinngkfflgaaGreat
open Go.RowKit Go.Shelf
attribute [local go_sem ↓] Go.wp_at_zero Go.wp_at_succ

theorem wp_make_rats_ {w : World} {o : Oper} {a : Act} {K : Act → World → Prop} {Q : Exit → Act → World → Prop}
    (l : Operand) (hop : o.op = Op.makeSlice 23 l l) (L : Int) (n : Nat) (hl : a.eval l = .int .i64 L) (hL : L = (n : Int)) (b2 : n ≤ 1000000000)
    (h : ∀ w', Rats (ERaw 1) w' (.slice (some ⟨w.heap.size, 0, none⟩) n n) (List.replicate n 0) → Later w w' → K (a.put o.dst (.slice (some ⟨w.heap.size, 0, none⟩) n n)) w') : o.wp Tryz.prog a w K Q := by
  obtain ⟨i, hi, hz, hs, hb⟩ := info_parts info_rat
  obtain ⟨w', hrun, r1, r2⟩ := run_make_full (P := Tryz.prog) w w.heap.size 23 37 i (.agg #[.bool false, .slice none 0 0, .bool false, .slice none 0 0]) 4 Tryz.underlying23 hi hz hs .i64 .i64 n (by rw [hb]; omega) (by unfold maxLen; omega) (Nat.le_refl _)
  subst hL
  unfold Oper.wp
  simp [execOp, hop, hl, hrun, Result.andThen]
  refine h w' ?_ (Later.grown (Later.refl w) r2 (fun k hk => by cases hk))
  have hout : OutRats (ERaw 1) w' (fun _ => False) w.heap.size (.slice (some ⟨w.heap.size, 0, none⟩) n n) (List.replicate n 0) := by
    refine ⟨List.replicate n (false, .slice none 0 0, false, .slice none 0 0), by simp, ?_, ?_, ?_⟩
    · rw [List.length_replicate, ← made_flat]; exact r1
    · intro e he
      rw [List.mem_replicate] at he
      obtain ⟨-, rfl⟩ := he
      exact ⟨⟨_, _, _, rfl⟩, ⟨_, _, _, rfl⟩⟩
    · refine On.pure fun W i e q he hq => ?_
      rw [List.getElem?_replicate] at he hq
      split at he
      · rename_i hin
        rw [if_pos hin] at hq
        injection he with he; injection hq with hq
        subst he hq
        exact raw_zero W
      · cases he
  exact hout.rats.now
theorem dot_bound {n k m : Nat} (hn : n ≤ 1000) (hk : k ≤ 1000) (hm : m ≤ 1000) : (n + 1) * (k + m + 4) ≤ 50000000 := by
  have h4 : (n + 1) * (k + m + 4) ≤ 1001 * 2004 := Nat.mul_le_mul (by omega) (by omega)
  omega
theorem dot_bound2 {n k m : Nat} (hn : n ≤ 1000) (hk : k ≤ 1000) (hm : m ≤ 1000) : n * (k + 1 + (m + 1) + 1) + 1 ≤ 3100000 := by
  have h4 : n * (k + 1 + (m + 1) + 1) ≤ 1000 * 2003 := Nat.mul_le_mul (by omega) (by omega)
  omega
/-- whether no column by row numbers is above a list's -/
def underB (A : List (List Rat)) (B C : List Rat) (ok : Bool) (u c : List Rat) : Bool := colOk A B C ok u && !((axpyL (colsL A u C.length) c (-1)).any fun x => decide (0 < x))
theorem underB_facts {A : List (List Rat)} {B C u c : List Rat} {ok : Bool} (h : underB A B C ok u c = true) : B.length ≤ 1000 ∧ u.length = A.length ∧ B.length = u.length := by
  unfold underB colOk at h
  simp only [Bool.and_eq_true, decide_eq_true_eq] at h
  obtain ⟨h1, -, h2, -⟩ := rightB_facts h.1.1 |> fun x => (⟨x.1, x.2.1, x.2.2.1, x.2.2.2⟩ : _ ∧ _ ∧ _ ∧ _)
  have h3 := (rightB_facts h.1.1).2.2.1
  exact ⟨by omega, h.1.2, by rw [h3, h.1.2]⟩
def bestB (A : List (List Rat)) (B C : List Rat) (ok : Bool) (y u : List Rat) : Bool := fulfB A B C ok y && (underB A B C ok u C && decide (dotL B u = dotL C y))
def noneB (A : List (List Rat)) (B C : List Rat) (ok : Bool) (u : List Rat) : Bool := underB A B C ok u (List.replicate C.length 0) && decide (0 < dotL B u)
theorem fulfB_facts {A : List (List Rat)} {B C y : List Rat} {ok : Bool} (h : fulfB A B C ok y = true) : rightB A B C ok = true ∧ y.length = C.length ∧ (∀ x ∈ y, ¬ x < 0) ∧ comesB A y B = true := by
  unfold fulfB at h
  simp only [Bool.and_eq_true, decide_eq_true_eq, Bool.not_eq_true', List.any_eq_false] at h
  exact ⟨h.1, h.2.1, fun x hx => by simpa using h.2.2.1 x hx, h.2.2.2⟩

set_option maxHeartbeats 8000000 in
theorem under_calls (w : World) (vA vB vC vu vc : Value) (k m p : Nat) (A : List (List Rat)) (B C u d : List Rat) (ok : Bool) (hs : StdIn w vA vB vC k A B C ok) (hu : Rats (ERaw m) w vu u) (hd : Rats (ERaw p) w vc d) (hm : m ≤ 1000) (hp : p ≤ 1000000) (hul : u.length ≤ 1000) (hdl : C.length = d.length) :
    Calls Tryz.prog 50 #[.agg #[vA, vB, vC], vu, vc] w (RetV w (.bool (underB A B C ok u d))) := by
  have HS := hide hs; have HSZ := hide hs.sizes
  obtain ⟨A1, n1, c1, A2, n2, c2, A3, n3, c3, rfl, rfl, rfl, hn1, hn2, hn3⟩ := hs.form
  have HN1 := hide hn1; have HN2 := hide hn2; have HN3 := hide hn3
  clear hs hn1 hn2 hn3
  have HU := hide hu
  obtain ⟨A4, n4, c4, rfl, hn4, -⟩ := hu.form
  have HN4 := hide hn4; have HUS := hide hu.sized
  clear hu hn4
  have HD := hide hd
  obtain ⟨A5, n5, c5, rfl, hn5, -⟩ := hd.form
  have HN5 := hide hn5; have HDS := hide hd.sized
  clear hd hn5
  have HUL := hide hul; have HDL := hide hdl
  clear hul hdl
  obtain ⟨W0, hW0⟩ : ∃ W0, W0 = w.alloc (Obj.cells #[Value.slice A1 n1 c1, Value.slice A2 n2 c2, Value.slice A3 n3 c3] 25) := ⟨_, rfl⟩
  obtain ⟨hb0, r1, hsz0⟩ := boxes1 w [.slice A1 n1 c1, .slice A2 n2 c2, .slice A3 n3 c3] 25 hW0
  have B0 := hide hb0; have HW0 := hide hW0; have R0 := hide r1
  have d1 := r1.cell (i := 0) rfl; have d2 := r1.cell (i := 1) rfl; have d3 := r1.cell (i := 2) rfl
  clear r1 hb0 hW0 hsz0
  go_enter Tryz.func50, Tryz.ntmps50
  go_upto_region 1 with fail
  rw [← HW0.out]
  go_wp2_with fail
  clear d1 d2 d3
  ((with_reducible refine (columns_calls W0 _ _ _ _ k m A B C u ok (HS.out.later B0.out) (HU.out.later ERaw.later B0.out) hm HUL.out).mono ?_); rintro e w1 ⟨b1, hp1⟩)
  rcases hp1 with ⟨hck, v1, rfl, o1, hsz⟩ | ⟨hck, rfl⟩
  rotate_left
  · have HCK := hide hck
    have HL1 := hide b1
    clear b1 hck
    go_wp2_with fail
    go_ret
    exact ⟨by unfold underB; rw [HCK.out]; rfl, B0.out.trans HL1.out⟩
  have ho1 := On.now o1
  obtain ⟨A6, n6, c6, rfl, hn6, -⟩ := ho1.form
  have HCK := hide hck; have HO1 := hide ho1; have HSZ1 := hide hsz; have HL1 := hide b1
  have hcl : (colsL A u C.length).length = C.length := colsL_len (fun r hr => by
    have := HCK.out
    unfold colOk at this
    simp only [Bool.and_eq_true] at this
    exact (rightB_facts this.1).2.2.2.1 r hr)
  have HCL := hide hcl
  clear hck ho1 hsz b1 o1 hn6 hcl
  go_wp2_with fail
  ((with_reducible refine (minus_calls w1).mono ?_); rintro e w2 ⟨v2, rfl, o2, b2⟩)
  obtain ⟨s2, P2, q2, e2, P2', q2', e2', rfl, o2⟩ := o2.open_; have O2 := hide o2; clear o2
  have HL2 := hide (HL1.out.trans b2)
  have HO2 : Hid (Rats (ERaw 200000) w2 (.slice A6 n6 c6) (colsL A u C.length)) := hide ((HO1.out.later EOwn.later b2).map fun v q hq he => OwnR.raw (B := 0) he (HSZ1.out q hq))
  clear b2
  go_wp2_with fail
  ((with_reducible refine (addtimes_calls w2 _ _ _ (colsL A u C.length) d (-1) 200000 p 1 HO2.out (HD.out.later ERaw.later (B0.out.trans HL2.out)) (OwnR.raw O2.out sized_m1) (by rw [HCL.out]; exact HDL.out) (by rw [HCL.out]; have := HSZ.out.2.2.2.2; omega) (by clear HU; omega)).mono ?_); rintro e w3 ⟨v3, ok3, rfl, ⟨o3, rfl⟩, b3⟩)
  have ho3 := On.now o3
  obtain ⟨A7, n7, c7, rfl, hn7, -⟩ := ho3.form
  have HZ3 : Hid (∀ x ∈ axpyL (colsL A u C.length) d (-1), Sized x 1300000) := hide fun x hx => (sized_axpy HSZ1.out HDS.out sized_m1 x hx).mono (by omega)
  have HO3 : Hid (Rats (ERaw 1300000) w3 (.slice A7 n7 c7) (axpyL (colsL A u C.length) d (-1))) := hide (ho3.map fun v q hq he => OwnR.raw (B := 0) he (HZ3.out q hq))
  have HL3 := hide (HL2.out.trans b3)
  clear o3 ho3 hn7 b3
  go_wp2_with fail
  obtain ⟨W4, hW4⟩ : ∃ W4, W4 = w3.alloc (Obj.cells #[Value.slice A7 n7 c7] 23) := ⟨_, rfl⟩
  obtain ⟨g4, hg4⟩ : ∃ g4, g4 = w3.heap.size := ⟨_, rfl⟩
  have hb : Later w3 W4 := by rw [hW4]; exact (Later.refl _).alloc _
  have hr : Row W4 g4 23 [.slice A7 n7 c7] := by rw [hW4, hg4]; exact Row.new _ _ _
  rw [← hW4, ← hg4]
  have HL4 := hide (HL3.out.trans hb)
  have HT4 := hide (tab_one hr (HO3.out.later ERaw.later hb))
  clear hb hr hW4 hg4
  obtain ⟨u2, hu2⟩ : ∃ u2, (!([axpyL (colsL A u C.length) d (-1)].any fun r => r.any fun x => decide (0 < x))) = u2 := ⟨_, rfl⟩
  have HU2 := hide hu2
  have HU2' : Hid ((!(axpyL (colsL A u C.length) d (-1)).any fun x => decide (0 < x)) = u2) := hide (by rw [← hu2]; simp)
  clear hu2
  refine (never_calls W4 _ [axpyL (colsL A u C.length) d (-1)] (ERaw 1300000) ERaw.later HT4.out (by simp) (fun r hr => by simp at hr; rw [hr]; unfold axpyL; rw [List.length_zipWith, HCL.out]; have := HSZ.out.2.2.2.2; omega) _ ⟨fun _ _ => by kernel_rfl⟩ (fun x => decide (0 < x)) (fun W xv x _ hx => cabove_calls W xv x 1300000 hx (by omega)) u2 HU2.out).mono ?_
  rintro e w5 ⟨rfl, b5⟩
  have HL5 := hide (HL4.out.trans b5)
  clear b5
  go_wp2_with fail
  go_ret
  exact ⟨by unfold underB; rw [HCK.out, HU2'.out]; rfl, B0.out.trans HL5.out⟩

set_option maxHeartbeats 8000000 in
theorem best_calls (w : World) (vA vB vC vy vu : Value) (k m p : Nat) (A : List (List Rat)) (B C y u : List Rat) (ok : Bool) (hs : StdIn w vA vB vC k A B C ok) (hy : Rats (ERaw m) w vy y) (hu : Rats (ERaw p) w vu u) (hm : m ≤ 1000) (hp : p ≤ 1000) (hyl : y.length ≤ 1000) (hul : u.length ≤ 1000) :
    Calls Tryz.prog 44 #[.agg #[vA, vB, vC], vy, vu] w (RetV w (.bool (bestB A B C ok y u))) := by
  have HS := hide hs; have HSZ := hide hs.sizes
  obtain ⟨A1, n1, c1, A2, n2, c2, A3, n3, c3, rfl, rfl, rfl, hn1, hn2, hn3⟩ := hs.form
  have HN1 := hide hn1; have HN2 := hide hn2; have HN3 := hide hn3
  clear hs hn1 hn2 hn3
  have HY := hide hy
  obtain ⟨A4, n4, c4, rfl, hn4, -⟩ := hy.form
  have HN4 := hide hn4; have HYS := hide hy.sized
  clear hy hn4
  have HU := hide hu
  obtain ⟨A5, n5, c5, rfl, hn5, -⟩ := hu.form
  have HN5 := hide hn5; have HUS := hide hu.sized
  clear hu hn5
  have HUL := hide hul; have HYL := hide hyl
  clear hul hyl
  obtain ⟨u1, hu1⟩ : ∃ u, fulfB A B C ok y = u := ⟨_, rfl⟩
  obtain ⟨u2, hu2⟩ : ∃ u2, underB A B C ok u C = u2 := ⟨_, rfl⟩
  have HU1 := hide hu1; have HU2 := hide hu2
  clear hu1 hu2
  obtain ⟨W0, hW0⟩ : ∃ W0, W0 = w.alloc (Obj.cells #[Value.slice A1 n1 c1, Value.slice A2 n2 c2, Value.slice A3 n3 c3] 25) := ⟨_, rfl⟩
  obtain ⟨hb0, r1, hsz0⟩ := boxes1 w [.slice A1 n1 c1, .slice A2 n2 c2, .slice A3 n3 c3] 25 hW0
  have B0 := hide hb0; have HW0 := hide hW0; have R0 := hide r1
  have d1 := r1.cell (i := 0) rfl; have d2 := r1.cell (i := 1) rfl; have d3 := r1.cell (i := 2) rfl
  clear r1 hb0 hW0 hsz0
  go_enter Tryz.func44, Tryz.ntmps44
  go_upto_region 1 with fail
  rw [← HW0.out]
  go_wp2_with fail
  clear d1 d2 d3
  refine (fulfils_calls W0 _ _ _ _ k m A B C y ok (HS.out.later B0.out) (HY.out.later ERaw.later B0.out) hm HYL.out).mono ?_
  rintro e w1 ⟨rfl, b1⟩
  rw [HU1.out]
  have HL1 := hide b1
  have hrs := R0.out.later HL1.out
  have d1 := hrs.cell (i := 0) rfl; have d2 := hrs.cell (i := 1) rfl; have d3 := hrs.cell (i := 2) rfl
  clear hrs
  clear b1
  cases u1 with
  | false =>
    go_wp2_with fail
    go_ret
    exact ⟨by unfold bestB; rw [HU1.out]; rfl, B0.out.trans HL1.out⟩
  | true =>
  go_wp2_with fail
  clear d1 d2 d3
  refine (under_calls w1 _ _ _ _ _ k p k A B C u C ok (HS.out.later (B0.out.trans HL1.out)) (HU.out.later ERaw.later (B0.out.trans HL1.out)) (HS.out.later (B0.out.trans HL1.out)).c hp (by have := HSZ.out.1; omega) HUL.out rfl).mono ?_
  rintro e w2 ⟨rfl, b2⟩
  rw [HU2.out]
  have HL2 := hide (HL1.out.trans b2)
  have hrs := R0.out.later HL2.out
  have d1 := hrs.cell (i := 0) rfl; have d2 := hrs.cell (i := 1) rfl; have d3 := hrs.cell (i := 2) rfl
  clear hrs
  clear b2
  cases u2 with
  | false =>
    go_wp2_with fail
    go_ret
    exact ⟨by unfold bestB; rw [HU1.out, HU2.out]; rfl, B0.out.trans HL2.out⟩
  | true =>
  have HFF := hide (fulfB_facts HU1.out); have HUF := hide (underB_facts HU2.out)
  go_wp2_with fail
  ((with_reducible refine (dot_calls w2 _ _ B u k p (HS.out.later (B0.out.trans HL2.out)).b (HU.out.later ERaw.later (B0.out.trans HL2.out)) HUF.out.2.2 (dot_bound HUF.out.1 HSZ.out.1 hp)).mono ?_); rintro e w3 ⟨v3, ok3, rfl, ⟨o3, rfl⟩, b3⟩)
  obtain ⟨s3, P3, q3, e3, P3', q3', e3', rfl, o3⟩ := o3.open_; have O3 := hide o3; clear o3
  have HL3 := hide (HL2.out.trans b3)
  have hrs := R0.out.later HL3.out
  have d1 := hrs.cell (i := 0) rfl; have d2 := hrs.cell (i := 1) rfl; have d3 := hrs.cell (i := 2) rfl
  clear hrs
  clear b3
  go_upto_region 4 with fail
  obtain ⟨W3, hW3⟩ : ∃ W3, W3 = w3.alloc (Obj.cells #[Value.bool s3, Value.slice P3 q3 e3, Value.bool false, Value.slice P3' q3' e3'] 37) := ⟨_, rfl⟩
  obtain ⟨g3, hg3⟩ : ∃ g3, g3 = w3.heap.size := ⟨_, rfl⟩
  have hb : Later w3 W3 := by rw [hW3]; exact (Later.refl _).alloc _
  have hr : Row W3 g3 37 [.bool s3, .slice P3 q3 e3, .bool false, .slice P3' q3' e3'] := by rw [hW3, hg3]; exact Row.new _ _ _
  rw [← hW3, ← hg3]
  have HR3 := hide hr
  have HO3 := hide (OwnR.later O3.out hb)
  have HLA := hide (HL3.out.trans hb)
  have hrs := R0.out.later HLA.out
  have d1 := hrs.cell (i := 0) rfl; have d2 := hrs.cell (i := 1) rfl; have d3 := hrs.cell (i := 2) rfl
  clear hrs
  clear hb hr hW3 hg3
  go_wp2_with fail
  ((with_reducible refine (dot_calls W3 _ _ C y k m (HS.out.later (B0.out.trans HLA.out)).c (HY.out.later ERaw.later (B0.out.trans HLA.out)) HFF.out.2.1.symm (dot_bound HSZ.out.2.2.2.2 HSZ.out.1 hm)).mono ?_); rintro e w4 ⟨v4, ok4, rfl, ⟨o4, rfl⟩, b4⟩)
  obtain ⟨s4, P4, q4, e4, P4', q4', e4', rfl, o4⟩ := o4.open_; have O4 := hide o4; clear o4
  have HR4 := hide (HR3.out.later b4)
  have HO34 := hide (OwnR.later HO3.out b4)
  have HLB := hide (HLA.out.trans b4)
  clear b4 d1 d2 d3
  go_upto_region 5 with fail
  obtain ⟨W4, hW4⟩ : ∃ W4, W4 = w4.alloc (Obj.cells #[Value.bool s4, Value.slice P4 q4 e4, Value.bool false, Value.slice P4' q4' e4'] 37) := ⟨_, rfl⟩
  obtain ⟨g4, hg4⟩ : ∃ g4, g4 = w4.heap.size := ⟨_, rfl⟩
  have hb : Later w4 W4 := by rw [hW4]; exact (Later.refl _).alloc _
  have hr : Row W4 g4 37 [.bool s4, .slice P4 q4 e4, .bool false, .slice P4' q4' e4'] := by rw [hW4, hg4]; exact Row.new _ _ _
  rw [← hW4, ← hg4]
  have HD3 : Hid (RawR W4 (.agg #[.bool s3, .slice P3 q3 e3, .bool false, .slice P3' q3' e3']) (dotL B u) 3100000) := hide (OwnR.raw (OwnR.later HO34.out hb) ((sized_dotL (HS.out.b).sized HUS.out).mono (dot_bound2 HUF.out.1 HSZ.out.1 hp)))
  have HD4 : Hid (RawR W4 (.agg #[.bool s4, .slice P4 q4 e4, .bool false, .slice P4' q4' e4']) (dotL C y) 3100000) := hide (OwnR.raw (OwnR.later O4.out hb) ((sized_dotL (HS.out.c).sized HYS.out).mono (dot_bound2 HSZ.out.2.2.2.2 HSZ.out.1 hm)))
  obtain ⟨f1, f2, f3, f4, -⟩ := row_cells4 (HR4.out.later hb)
  obtain ⟨d1, d2, d3, d4, -⟩ := row_cells4 hr
  have HLC := hide (HLB.out.trans hb)
  obtain ⟨cz, hcz⟩ : ∃ cz, cmpQ (dotL B u) (dotL C y) = cz := ⟨_, rfl⟩
  have HCZ := hide hcz
  clear hb hr hW4 hg4 hcz
  go_wp2_with fail
  ((with_reducible refine (rcmp_calls W4 _ _ (dotL B u) (dotL C y) 3100000 3100000 HD3.out HD4.out (by omega)).mono ?_); rintro e w5 ⟨rfl, b5⟩; rw [HCZ.out])
  have HL5 := hide (HLC.out.trans b5)
  clear b5
  go_wp2_with fail
  go_ret
  exact ⟨by unfold bestB; rw [HU1.out, HU2.out, ← cmp_eq0 HCZ.out]; rfl, B0.out.trans HL5.out⟩

set_option maxHeartbeats 8000000 in
theorem none_calls (w : World) (vA vB vC vu : Value) (k m : Nat) (A : List (List Rat)) (B C u : List Rat) (ok : Bool) (hs : StdIn w vA vB vC k A B C ok) (hu : Rats (ERaw m) w vu u) (hm : m ≤ 1000) (hul : u.length ≤ 1000) :
    Calls Tryz.prog 16 #[.agg #[vA, vB, vC], vu] w (RetV w (.bool (noneB A B C ok u))) := by
  have HS := hide hs; have HSZ := hide hs.sizes
  obtain ⟨A1, n1, c1, A2, n2, c2, A3, n3, c3, rfl, rfl, rfl, hn1, hn2, hn3⟩ := hs.form
  have HN1 := hide hn1; have HN2 := hide hn2; have HN3 := hide hn3
  clear hs hn1 hn2 hn3
  have HU := hide hu
  obtain ⟨A4, n4, c4, rfl, hn4, -⟩ := hu.form
  have HN4 := hide hn4; have HUS := hide hu.sized
  clear hu hn4
  have HUL := hide hul
  have hn3 : n3 ≤ 1000 := by rw [HN3.out]; exact HSZ.out.2.2.2.2
  clear hul
  obtain ⟨u1, hu1⟩ : ∃ u2, underB A B C ok u (List.replicate n3 0) = u2 := ⟨_, rfl⟩
  have HU1 := hide hu1
  clear hu1
  obtain ⟨W0, hW0⟩ : ∃ W0, W0 = w.alloc (Obj.cells #[Value.slice A1 n1 c1, Value.slice A2 n2 c2, Value.slice A3 n3 c3] 25) := ⟨_, rfl⟩
  obtain ⟨hb0, r1, hsz0⟩ := boxes1 w [.slice A1 n1 c1, .slice A2 n2 c2, .slice A3 n3 c3] 25 hW0
  have B0 := hide hb0; have HW0 := hide hW0; have R0 := hide r1
  have d1 := r1.cell (i := 0) rfl; have d2 := r1.cell (i := 1) rfl; have d3 := r1.cell (i := 2) rfl
  clear r1 hb0 hW0 hsz0
  go_enter Tryz.func16, Tryz.ntmps16
  go_upto_region 1 with fail
  rw [← HW0.out]
  clear d1 d2 d3
  have hmx : Tryz.prog.follows .mixedOrders = true := by kernel_rfl
  have HT1 : Hid (∀ w', Later W0.drew w' → w'.cell? ⟨w.heap.size, 0, none⟩ = some (.slice A1 n1 c1) ∧ w'.cell? ⟨w.heap.size, 1, none⟩ = some (.slice A2 n2 c2) ∧ w'.cell? ⟨w.heap.size, 2, none⟩ = some (.slice A3 n3 c3)) := hide fun w' hb => ⟨(R0.out.later ((Later.refl W0).drew.trans hb)).cell rfl, (R0.out.later ((Later.refl W0).drew.trans hb)).cell rfl, (R0.out.later ((Later.refl W0).drew.trans hb)).cell rfl⟩
  refine wp_region_N (fun w' => w'.cell? ⟨w.heap.size, 0, none⟩ = some (.slice A1 n1 c1) ∧ w'.cell? ⟨w.heap.size, 1, none⟩ = some (.slice A2 n2 c2) ∧ w'.cell? ⟨w.heap.size, 2, none⟩ = some (.slice A3 n3 c3)) [] hmx (HT1.out _ (Later.refl _)) (fun hHeld => ?_)
  refine wpAnyN_takeD (some 7) (by rfl) (i := 0) (oi := _) (v := ?_) rfl (by kernel_rfl) (by kernel_rfl) (by kernel_rfl) (by kernel_rfl) (fun _ _ _ h => h) (Or.inl ⟨by rfl, ?_⟩) (by assumption) ?_
  rotate_left
  · intro w hSw; (try dsimp only at hSw); go_simp
    first | done | with_reducible rfl
  try simp only [Act.put, List.setIfInBounds_toArray, List.set_cons_zero, List.set_cons_succ]
  refine wpAnyN_takeD (some 8) (by rfl) (i := 1) (oi := _) (v := ?_) rfl (by kernel_rfl) (by kernel_rfl) (by kernel_rfl) (by kernel_rfl) (fun _ _ _ h => h) (Or.inl ⟨by rfl, ?_⟩) (by assumption) ?_
  rotate_left
  · intro w hSw; (try dsimp only at hSw); go_simp
    first | done | with_reducible rfl
  try simp only [Act.put, List.setIfInBounds_toArray, List.set_cons_zero, List.set_cons_succ]
  refine wpAnyN_takeD (some 9) (by rfl) (i := 2) (oi := _) (v := ?_) rfl (by kernel_rfl) (by kernel_rfl) (by kernel_rfl) (by kernel_rfl) (fun _ _ _ h => h) (Or.inl ⟨by rfl, ?_⟩) (by assumption) ?_
  rotate_left
  · intro w hSw; (try dsimp only at hSw); go_simp
    first | done | with_reducible rfl
  try simp only [Act.put, List.setIfInBounds_toArray, List.set_cons_zero, List.set_cons_succ]
  refine wpAnyN_takeD (some 10) (by rfl) (i := 3) (oi := _) (v := ?_) rfl (by kernel_rfl) (by kernel_rfl) (by kernel_rfl) (by kernel_rfl) (fun _ _ _ h => h) (Or.inl ⟨by rfl, ?_⟩) (by assumption) ?_
  rotate_left
  · intro w hSw; (try dsimp only at hSw); go_simp
    first | done | with_reducible rfl
  try simp only [Act.put, List.setIfInBounds_toArray, List.set_cons_zero, List.set_cons_succ]
  refine wpAnyN_takeD (some 11) (by rfl) (i := 4) (oi := _) (v := ?_) rfl (by kernel_rfl) (by kernel_rfl) (by kernel_rfl) (by kernel_rfl) (fun _ _ _ h => h) (Or.inl ⟨by rfl, ?_⟩) (by assumption) ?_
  rotate_left
  · intro w hSw; (try dsimp only at hSw); go_simp
    first | done | with_reducible rfl
  try simp only [Act.put, List.setIfInBounds_toArray, List.set_cons_zero, List.set_cons_succ]
  refine wpAnyN_ready (rs := [5]) (by kernel_rfl) (by simp) ?_
  refine AllReadyN.held rfl (by rfl) (fun K hK => ?_) AllReadyN.nil
  refine wp_make_rats_ _ rfl _ n3 rfl rfl (by omega) ?_
  intro w105 hz b105
  have HZ := hide hz
  have l5 : Later W0.drew w105 := b105
  clear hz
  refine hK.out _ _ ?_ (fun hHeld => ?_)
  · exact HT1.out _ l5
  clear hK K
  try simp only [Act.put, List.setIfInBounds_toArray, List.set_cons_zero, List.set_cons_succ]
  refine wpAnyN_ready (rs := [6]) (by kernel_rfl) (by simp) ?_
  refine AllReadyN.held rfl (by rfl) (fun K hK => ?_) AllReadyN.nil
  go_simp
  refine (under_calls w105 _ _ _ _ _ k m 1 A B C u (List.replicate n3 0) ok (HS.out.later ((B0.out.drew).trans l5)) (HU.out.later ERaw.later ((B0.out.drew).trans l5)) HZ.out hm (by omega) HUL.out (by rw [List.length_replicate]; exact HN3.out.symm)).mono ?_
  rintro e w106 ⟨rfl, b106⟩
  rw [HU1.out]
  have l6 : Later W0.drew w106 := l5.trans b106
  clear b106
  refine hK.out _ _ ?_ (fun hHeld => ?_)
  · exact HT1.out _ l6
  clear hK K
  try simp only [Act.put, List.setIfInBounds_toArray, List.set_cons_zero, List.set_cons_succ]
  refine wpAnyN_takeD (some 14) (by rfl) (i := 7) (oi := _) (v := ?_) rfl (by kernel_rfl) (by kernel_rfl) (by kernel_rfl) (by kernel_rfl) (fun _ _ _ h => h) (Or.inl ⟨by rfl, ?_⟩) (by assumption) ?_
  rotate_left
  · intro w hSw; (try dsimp only at hSw); go_simp
    first | done | with_reducible rfl
  try simp only [Act.put, List.setIfInBounds_toArray, List.set_cons_zero, List.set_cons_succ]
  refine wpAnyN_done (by kernel_rfl) ?_ _
  have HL1 := hide (show Later W0 w106 from (Later.refl W0).drew.trans l6)
  clear hHeld l5 l6 b105
  cases u1 with
  | false =>
    go_wp2_with fail
    go_ret
    exact ⟨by unfold noneB; rw [← HN3.out, HU1.out]; rfl, B0.out.trans HL1.out⟩
  | true =>
  have HUT := hide (underB_facts HU1.out)
  have hrs := R0.out.later HL1.out
  have d1 := hrs.cell (i := 0) rfl; have d2 := hrs.cell (i := 1) rfl; have d3 := hrs.cell (i := 2) rfl
  clear hrs
  go_wp2_with fail
  ((with_reducible refine (dot_calls w106 _ _ B u k m (HS.out.later (B0.out.trans HL1.out)).b (HU.out.later ERaw.later (B0.out.trans HL1.out)) HUT.out.2.2 (by have h1 := HUT.out.1; exact dot_bound h1 HSZ.out.1 hm)).mono ?_); rintro e w2 ⟨v2, ok2, rfl, ⟨o2, rfl⟩, b2⟩)
  obtain ⟨s2, P2, q2, e2, P2', q2', e2', rfl, o2⟩ := o2.open_; have O2 := hide o2; clear o2
  have HL2 := hide (HL1.out.trans b2)
  clear d1 d2 d3 b2
  go_upto_region 4 with fail
  obtain ⟨W3, hW3⟩ : ∃ W3, W3 = w2.alloc (Obj.cells #[Value.bool s2, Value.slice P2 q2 e2, Value.bool false, Value.slice P2' q2' e2'] 37) := ⟨_, rfl⟩
  obtain ⟨g3, hg3⟩ : ∃ g3, g3 = w2.heap.size := ⟨_, rfl⟩
  have hb : Later w2 W3 := by rw [hW3]; exact (Later.refl _).alloc _
  have hr : Row W3 g3 37 [.bool s2, .slice P2 q2 e2, .bool false, .slice P2' q2' e2'] := by rw [hW3, hg3]; exact Row.new _ _ _
  rw [← hW3, ← hg3]
  have HL3 := hide (HL2.out.trans hb)
  have hd : Later W3 W3.drew := (Later.refl W3).drew
  have hr3 := hr.later hd
  have HDR : Hid (∀ W', Later W3.drew W' → RawR W' (.agg #[.bool s2, .slice P2 q2 e2, .bool false, .slice P2' q2' e2']) (dotL B u) 3100000) := hide fun W' h => OwnR.raw (OwnR.later O2.out (hb.trans (hd.trans h))) ((sized_dotL (HS.out.b).sized HUS.out).mono (dot_bound2 HUT.out.1 HSZ.out.1 hm))
  have HT2 : Hid (∀ w', Later W3.drew w' → w'.cell? ⟨g3, 0, none⟩ = some (.bool s2) ∧ w'.cell? ⟨g3, 1, none⟩ = some (.slice P2 q2 e2) ∧ w'.cell? ⟨g3, 2, none⟩ = some (.bool false) ∧ w'.cell? ⟨g3, 3, none⟩ = some (.slice P2' q2' e2')) := hide fun w' hb => ⟨(hr3.later hb).cell rfl, (hr3.later hb).cell rfl, (hr3.later hb).cell rfl, (hr3.later hb).cell rfl⟩
  obtain ⟨cz, hcz⟩ : ∃ cz, cmpQ (dotL B u) 0 = cz := ⟨_, rfl⟩
  have HCZ := hide hcz
  clear hr3 hd hb hr hW3 hg3 hcz
  go_region_held3 (fun w' => w'.cell? ⟨g3, 0, none⟩ = some (.bool s2) ∧ w'.cell? ⟨g3, 1, none⟩ = some (.slice P2 q2 e2) ∧ w'.cell? ⟨g3, 2, none⟩ = some (.bool false) ∧ w'.cell? ⟨g3, 3, none⟩ = some (.slice P2' q2' e2'))
    (first | exact HT2.out _ (Later.refl _) | exact HT2.out _ b4 | exact HT2.out _ (b4.trans b5))
    (first
      | ((with_reducible refine (czero_calls _).mono ?_); rintro e w4 ⟨v4, rfl, o4, b4⟩; obtain ⟨s4, P4, q4, e4, P4', q4', e4', rfl, o4⟩ := o4.open_; have O4 := hide o4; clear o4)
      | ((with_reducible refine (rcmp_calls _ _ _ (dotL B u) 0 3100000 1 (HDR.out _ b4) (OwnR.raw O4.out sized_0) (by omega)).mono ?_); rintro e w5 ⟨rfl, b5⟩; rw [HCZ.out]))
  all_goals
    have HL5 := hide (HL3.out.trans ((Later.refl W3).drew.trans (b4.trans b5)))
    clear b4 b5
    go_wp2_with fail
    go_ret
    exact ⟨by unfold noneB; rw [← HN3.out, HU1.out, ← cmp0_gt HCZ.out]; rfl, B0.out.trans HL5.out⟩
end Go.Proofs.YthncinngkfflgaaGreat
