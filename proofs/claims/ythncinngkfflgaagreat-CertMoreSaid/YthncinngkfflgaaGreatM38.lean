import Derived.Test.YthncinngkfflgaaGreatM37
import Derived.Test.YthncinngkfflgaaGreatM20
import Derived.Test.YthncinngkfflgaaGreatM17
import Derived.Deep.Strs
import Derived.Test.YthncinngkfflgaaGreatM36

/- CertTells: the walk. -/
set_option linter.unusedVariables false
set_option linter.unusedSimpArgs false
set_option maxRecDepth 100000
namespace Go.Proofs.YthncinngkfflgaaGreat
open Go.RowKit Go.Shelf
attribute [local go_sem ↓] Go.wp_at_zero Go.wp_at_succ

/-- what a problem came to, as it came in -/
def ArgSol (w : World) (v : Value) : Prop := ∃ how A5 n5 c5 vY sv A7 n7 c7 sv' A8 n8 c8 vU vR y z u r, v = .agg #[.int .i64 how, .slice A5 n5 c5, vY, .bool sv, .slice A7 n7 c7, .bool sv', .slice A8 n8 c8, vU, vR] ∧ Rats EAny w vY y ∧ EAny w (.agg #[.bool sv, .slice A7 n7 c7, .bool sv', .slice A8 n8 c8]) z ∧ Rats EAny w vU u ∧ Rats EAny w vR r
def colD (A : List (List Rat)) (B C : List Rat) (ok : Bool) (u : List Rat) : List Rat := if colOk A B C ok u = true then colsL A u C.length else []
theorem colD_len (A : List (List Rat)) (B C : List Rat) (ok : Bool) (u : List Rat) : (colD A B C ok u).length ≤ C.length := by
  unfold colD
  split
  · rename_i h
    unfold colOk at h
    rw [Bool.and_eq_true] at h
    rw [colsL_len (rightB_facts h.1).2.2.2.1]; exact Nat.le_refl _
  · simp
theorem colpost_any {w w' : World} {A : List (List Rat)} {B C u : List Rat} {ok : Bool} {K : Nat} {e : Ending} (h : ColPost w A B C ok u K e w') :
    ∃ A1 n c, e = .returned (.tuple #[.slice A1 n c, .bool (colOk A B C ok u)]) ∧ Rats EOwn w' (.slice A1 n c) (colD A B C ok u) ∧ (∀ x ∈ colD A B C ok u, Sized x K) ∧ Later w w' := by
  obtain ⟨hb, ⟨h1, v, rfl, h2, h3⟩ | ⟨h1, rfl⟩⟩ := h
  · have h4 := On.now h2
    obtain ⟨A1, n, c, rfl, -⟩ := h4.form
    rw [h1]
    have e : colD A B C ok u = colsL A u C.length := by unfold colD; rw [if_pos h1]
    rw [e]
    exact ⟨A1, n, c, rfl, h4, h3, hb⟩
  · rw [h1]
    have e : colD A B C ok u = [] := by unfold colD; rw [h1]; rfl
    rw [e]
    exact ⟨none, 0, 0, rfl, rats_nil _ _, fun x hx => by simp at hx, hb⟩
end Go.Proofs.YthncinngkfflgaaGreat


/- A problem in standard form, a proof's numbers and an answer that came in read as such, of whatever size. -/
set_option linter.unusedVariables false
set_option linter.unusedSimpArgs false
set_option maxRecDepth 100000
namespace Go.Proofs.YthncinngkfflgaaGreat
open Go.RowKit Go.Shelf Go.ChangeShapes Go.WideShapes Go.Deep
section
variable {H : Type} {enc : TypeId × Value → H} {w : World} {base : Nat} {spare : Nat → Bool} {held : Bool}
theorem cellsTab : Tryz.prog.cellsOf 22 = 1 := by kernel_rfl
theorem cellsStd : Tryz.prog.cellsOf 25 = 3 := by kernel_rfl
theorem cellsPrf : Tryz.prog.cellsOf 27 = 3 := by kernel_rfl
theorem cellsSol : Tryz.prog.cellsOf 77 = 9 := by kernel_rfl
theorem cellsI1 : Tryz.prog.cellsOf 3 = 1 := by kernel_rfl
theorem cellsIs : Tryz.prog.cellsOf 43 = 1 := by kernel_rfl
theorem arg_std {r : Reach} {b0 : Nat} {v : Value} {d : DataW H} {p : List MemPlace} (hv : Value.okWide Tryz.prog w r b0 25 v) (h : DataW.Trod enc Tryz.prog w base spare held 25 v d p) : ArgStd w v := by
  obtain ⟨cs, rfl, hsz⟩ := okWide_struct Tryz.underlying25 hv
  obtain ⟨fuel, hf⟩ := h
  obtain ⟨y0, y1, y2, m, -, hlen, h0, h1, h2⟩ := trod_struct3 Tryz.underlying25 hf
  rw [cellsStd] at hlen
  obtain ⟨l⟩ := cs
  match l, hlen with
  | [c0, c1, c2], _ =>
    simp only [Value.cells, cellsTab, cellsRats, List.drop_zero, List.drop_succ_cons, List.take_succ_cons, List.take_zero] at h0 h1 h2
    obtain ⟨A1, n1, c1, t, e0, ht⟩ := tab_open h0
    obtain ⟨A2, n2, c2, b, e1, hb⟩ := rats_open h1
    obtain ⟨A3, n3, c3, c, e2, hc⟩ := rats_open h2
    simp at e0 e1 e2
    subst e0 e1 e2
    exact ⟨_, _, _, t, b, c, rfl, ht, hb, hc⟩
theorem arg_proof {r : Reach} {b0 : Nat} {v : Value} {d : DataW H} {p : List MemPlace} (hv : Value.okWide Tryz.prog w r b0 27 v) (h : DataW.Trod enc Tryz.prog w base spare held 27 v d p) : ArgProof w v := by
  obtain ⟨cs, rfl, hsz⟩ := okWide_struct Tryz.underlying27 hv
  obtain ⟨fuel, hf⟩ := h
  obtain ⟨y0, y1, y2, m, -, hlen, h0, h1, h2⟩ := trod_struct3 Tryz.underlying27 hf
  rw [cellsPrf] at hlen
  obtain ⟨l⟩ := cs
  match l, hlen with
  | [c0, c1, c2], _ =>
    simp only [Value.cells, cellsRats, List.drop_zero, List.drop_succ_cons, List.take_succ_cons, List.take_zero] at h0 h1 h2
    obtain ⟨A1, n1, c1, a, e0, ha⟩ := rats_open h0
    obtain ⟨A2, n2, c2, b, e1, hb⟩ := rats_open h1
    obtain ⟨A3, n3, c3, c, e2, hc⟩ := rats_open h2
    simp at e0 e1 e2
    subst e0 e1 e2
    exact ⟨_, _, _, a, b, c, rfl, ha, hb, hc⟩
theorem arg_sol {r : Reach} {b0 : Nat} {v : Value} {d : DataW H} {p : List MemPlace} (hv : Value.okWide Tryz.prog w r b0 77 v) (h : DataW.Trod enc Tryz.prog w base spare held 77 v d p) : ArgSol w v := by
  obtain ⟨cs, rfl, hsz⟩ := okWide_struct Tryz.underlying77 hv
  obtain ⟨fuel, hf⟩ := h
  obtain ⟨xs, m, -, -, hlen, hxl, hx⟩ := DataW.trod_struct Tryz.underlying77 hf
  have h0 := hx 0 _ rfl
  have h1 := hx 1 _ rfl
  have h2 := hx 2 _ rfl
  have h3 := hx 3 _ rfl
  have h4 := hx 4 _ rfl
  have h5 := hx 5 _ rfl
  rw [cellsSol] at hlen
  obtain ⟨l⟩ := cs
  match l, hlen, xs, hxl with
  | [c0, c1, c2, c3, c4, c5, c6, c7, c8], _, [y0, y1, y2, y3, y4, y5], _ =>
    simp only [List.getElem_toArray, List.getElem_cons_zero, List.getElem_cons_succ, List.getElem?_cons_zero, List.getElem?_cons_succ, Value.cells, cellsRats, cellsRat, cellsI1, cellsIs, List.drop_zero, List.drop_succ_cons, List.take_succ_cons, List.take_zero] at h0 h1 h2 h3 h4 h5
    obtain ⟨k, e0, -⟩ := DataW.trod_int Tryz.underlying3 h0
    obtain ⟨A2, n2, c2', b, e2, hb⟩ := rats_open h2
    obtain ⟨s, A, n, c, s', A', n', c', q, e3, hq⟩ := rat_open h3
    obtain ⟨A4, n4, c4', b4, e4, hb4⟩ := rats_open h4
    obtain ⟨A5, n5, c5', b5, e5, hb5⟩ := rats_open h5
    have e1 : ∃ A1 n1 c1', c1 = .slice A1 n1 c1' := by
      rcases open_slice Tryz.underlying43 h1 with ⟨e, -⟩ | ⟨a, n, c, m, f, D, Pl, e, -⟩
      · simp at e; exact ⟨_, _, _, e⟩
      · simp at e; exact ⟨_, _, _, e⟩
    obtain ⟨A1, n1, c1', e1⟩ := e1
    simp at e0 e2 e3 e4 e5
    obtain ⟨rfl, rfl, rfl, rfl⟩ := e3
    subst e0 e1 e2 e4 e5
    exact ⟨k, A1, n1, c1', _, s, A, n, c, s', A', n', c', _, _, b, q, b4, b5, rfl, hb, hq, hb4, hb5⟩
end
end Go.Proofs.YthncinngkfflgaaGreat


/- Proofs of standard forms, so many times, and with more rows; with no program in sight. -/
set_option linter.unusedVariables false
set_option linter.unusedSimpArgs false
set_option maxRecDepth 100000
namespace Go.Proofs.YthncinngkfflgaaGreat

def colOf (A : List (List Rat)) (j : Nat) : List Rat := A.map fun r => r.getD j 0
theorem colP_dot (A : List (List Rat)) (u : List Rat) (j : Nat) : sumR (colP A u j) = dotL (colOf A j) u := by
  unfold colP dotL colOf
  rw [List.zipWith_map_left]
theorem colsL_at {A : List (List Rat)} {u : List Rat} {n j : Nat} (hA : ∀ r ∈ A, r.length = n) (hl : u.length = A.length) (hj : j < n) : (colsL A u n)[j]? = some (dotL (colOf A j) u) := by
  rw [colsL_eq hA hl, List.getElem?_map, List.getElem?_range hj, Option.map_some, colP_dot]
theorem underB_iff {A : List (List Rat)} {B C u c : List Rat} {ok : Bool} (hc : c.length = C.length) : underB A B C ok u c = true ↔ (colOk A B C ok u = true ∧ ∀ j, j < C.length → ¬ c.getD j 0 < dotL (colOf A j) u) := by
  constructor
  · intro h
    obtain ⟨h1, h2, h3⟩ := underB_parts h
    have hr := (rightB_facts h1).2.2.2.1
    refine ⟨by unfold colOk; rw [h1, h2]; simp, fun j hj => ?_⟩
    have e1 := colsL_at hr h2 hj
    have e2 : c[j]? = some (c.getD j 0) := by rw [List.getD_eq_getElem?_getD, List.getElem?_eq_getElem (by omega)]; rfl
    have := h3 _ (List.mem_of_getElem? (axpy_at (q := -1) e1 e2))
    grind
  · rintro ⟨h1, h2⟩
    have h1' := h1
    unfold colOk at h1'
    rw [Bool.and_eq_true, decide_eq_true_eq] at h1'
    have hr := (rightB_facts h1'.1).2.2.2.1
    refine under_true h1 fun i x z hx hz => ?_
    have hi : i < C.length := by
      have := (List.getElem?_eq_some_iff.1 hx).1
      rwa [colsL_len hr] at this
    rw [colsL_at hr h1'.2 hi] at hx
    injection hx with hx
    have := h2 i hi
    rw [List.getD_eq_getElem?_getD, hz, hx] at this
    exact this
theorem rightB_mk {A : List (List Rat)} {B C : List Rat} {ok : Bool} (h1 : A.length ≤ 64) (h2 : C.length ≤ 80) (h3 : B.length = A.length) (h4 : ∀ r ∈ A, r.length = C.length) (h5 : ok = true) (h6 : ∀ x ∈ B, ¬ x < 0) : rightB A B C ok = true := by
  unfold rightB rectB
  simp only [Bool.and_eq_true, decide_eq_true_eq, List.all_eq_true, Bool.not_eq_true', List.any_eq_false]
  exact ⟨h1, h2, h3, h4, h5, fun x hx => by simpa using h6 x hx⟩
theorem zeros_len {u : List Rat} {q : Rat} : (axpyL (List.replicate u.length 0) u q).length = u.length := by
  unfold axpyL; rw [List.length_zipWith, List.length_replicate, Nat.min_self]
theorem dot_zeros (a u : List Rat) (q : Rat) : dotL a (axpyL (List.replicate u.length 0) u q) = q * dotL a u := by
  rw [dotL_comm, dotL_axpy, dotL_comm]
theorem pos_mul {q x : Rat} (hq : 0 < q) : 0 < q * x ↔ 0 < x := by
  constructor
  · intro h
    rcases Std.lt_trichotomy x 0 with h1 | h1 | h1
    · have := Rat.mul_pos hq (by grind : 0 < -x)
      grind
    · subst h1; grind
    · exact h1
  · exact fun h => Rat.mul_pos hq h
theorem bool_eq_of_iff {a b : Bool} (h : a = true ↔ b = true) : a = b := by
  cases a <;> cases b <;> simp_all
/-- so many times -/
theorem none_scaled {A : List (List Rat)} {B C u : List Rat} {ok : Bool} {q : Rat} (hq : 0 < q) : noneB A B C ok (axpyL (List.replicate u.length 0) u q) = noneB A B C ok u := by
  have hk : colOk A B C ok (axpyL (List.replicate u.length 0) u q) = colOk A B C ok u := by unfold colOk; rw [zeros_len]
  unfold noneB
  have h1 : underB A B C ok (axpyL (List.replicate u.length 0) u q) (List.replicate C.length 0) = underB A B C ok u (List.replicate C.length 0) := by
    refine bool_eq_of_iff ?_
    rw [underB_iff (by simp), underB_iff (by simp), hk]
    refine and_congr_right fun _ => forall_congr' fun j => forall_congr' fun hj => ?_
    rw [dot_zeros]
    have e : (List.replicate C.length (0 : Rat)).getD j 0 = 0 := by rw [List.getD_eq_getElem?_getD, List.getElem?_replicate, if_pos hj]; rfl
    rw [e, pos_mul hq]
  rw [h1, dot_zeros]
  congr 1
  exact decide_eq_decide.2 (pos_mul hq)
theorem dbl_len {u : List Rat} : (axpyL u u 1).length = u.length := by unfold axpyL; rw [List.length_zipWith, Nat.min_self]
theorem dot_dbl (a u : List Rat) : dotL a (axpyL u u 1) = dotL a u + dotL a u := by
  rw [dotL_comm, dotL_add u u a 1 rfl, dotL_comm u a]; grind
theorem best_doubled {A : List (List Rat)} {B C y u : List Rat} {ok ok' : Bool} (h : bestB A B C ok y u = true) (ho : ok = true → ok' = true) : bestB A B (axpyL C C 1) ok' y (axpyL u u 1) = true := by
  obtain ⟨h1, h2, h3⟩ := bestB_parts h
  obtain ⟨k1, k2, k3, k4⟩ := fulfB_facts h1
  obtain ⟨r1, r2, r3, r4, r5, r6⟩ := rightB_facts k1
  have hr : rightB A B (axpyL C C 1) ok' = true := rightB_mk r1 (by rw [dbl_len]; exact r2) r3 (fun r hr => by rw [dbl_len]; exact r4 r hr) (ho r5) r6
  rw [underB_iff rfl] at h2
  obtain ⟨h2, h4⟩ := h2
  unfold colOk at h2
  rw [Bool.and_eq_true, decide_eq_true_eq] at h2
  unfold bestB
  rw [Bool.and_eq_true, Bool.and_eq_true, decide_eq_true_eq]
  refine ⟨?_, ?_, ?_⟩
  · unfold fulfB
    simp only [Bool.and_eq_true, decide_eq_true_eq, Bool.not_eq_true', List.any_eq_false]
    exact ⟨hr, by rw [dbl_len]; exact k2, fun x hx => by simpa using k3 x hx, k4⟩
  · rw [underB_iff rfl]
    refine ⟨by unfold colOk; rw [hr, dbl_len, h2.2]; simp, fun j hj => ?_⟩
    rw [dbl_len] at hj
    have := h4 j hj
    rw [dot_dbl, axpy_get hj hj]
    grind
  · rw [dot_dbl, h3, dotL_comm (axpyL C C 1) y, dot_dbl, dotL_comm y C]
theorem dotL_snoc (a b : List Rat) (x y : Rat) (h : a.length = b.length) : dotL (a ++ [x]) (b ++ [y]) = dotL a b + x * y := by
  unfold dotL
  rw [List.zipWith_append h, sumR_append_one]
where sumR_append_one : sumR (List.zipWith (fun x y => x * y) a b ++ List.zipWith (fun x y => x * y) [x] [y]) = sumR (List.zipWith (fun x y => x * y) a b) + x * y := sumR_snoc _ _
/-- with a row more, 0 for it -/
theorem none_more {A : List (List Rat)} {B C u r : List Rat} {b : Rat} {ok ok' : Bool} (h : noneB A B C ok u = true) (ho : ok' = true) (hA : A.length ≤ 63) (hr : r.length = C.length) (hb : ¬ b < 0) : noneB (A ++ [r]) (B ++ [b]) C ok' (u ++ [0]) = true := by
  unfold noneB at h ⊢
  rw [Bool.and_eq_true, decide_eq_true_eq] at h ⊢
  obtain ⟨h1, h2⟩ := h
  rw [underB_iff (by simp)] at h1 ⊢
  obtain ⟨h1, h4⟩ := h1
  unfold colOk at h1
  rw [Bool.and_eq_true, decide_eq_true_eq] at h1
  obtain ⟨r1, r2, r3, r4, r5, r6⟩ := rightB_facts h1.1
  have hk : rightB (A ++ [r]) (B ++ [b]) C ok' = true := rightB_mk (by simp; omega) r2 (by simp [r3]) (fun s hs => by
    rw [List.mem_append, List.mem_singleton] at hs
    rcases hs with hs | rfl
    · exact r4 s hs
    · exact hr) ho (fun x hx => by
    rw [List.mem_append, List.mem_singleton] at hx
    rcases hx with hx | rfl
    · exact r6 x hx
    · exact hb)
  refine ⟨⟨by unfold colOk; rw [hk]; simp [h1.2], fun j hj => ?_⟩, ?_⟩
  · have := h4 j hj
    have e : colOf (A ++ [r]) j = colOf A j ++ [r.getD j 0] := by unfold colOf; simp
    rw [e, dotL_snoc _ _ _ _ (by unfold colOf; rw [List.length_map, h1.2])]
    grind
  · rw [dotL_snoc _ _ _ _ (by rw [r3, h1.2])]
    grind
/-- other costs of one's own -/
theorem std_newc {w : World} {vA vB vC vC' : Value} {A : List (List Rat)} {B C C' : List Rat} {ok : Bool} (h : StdIn w vA vB vC 1 A B C ok) (hc : Rats EOwn w vC' C') (hs : ∀ q ∈ C', Sized q 10) (hl : C'.length ≤ 1000) : ∃ ok', StdIn w vA vB vC' 10 A B C' ok' ∧ (ok = true → ok' = true) := by
  obtain ⟨fA, fB, fC, h1, h2, h3, h4, h5, h6, rfl, h7, h8, h9, h10, h11, h12⟩ := h
  refine ⟨_, ⟨fA, fB, _, h1.map (fun row hr v q hq he => RawR.mono he (by omega)), h2.map (fun v q hq he => RawR.mono he (by omega)), hc.map (fun v q hq he => OwnR.raw (B := 0) he (hs q hq)), h4, h5, rats_own_flags hc (fun q hq => (hs q hq).mono (by omega)), rfl, by omega, h8, h9, h10, h11, hl⟩, ?_⟩
  rw [allF_ones]
  simp only [Bool.and_eq_true]
  exact fun h => ⟨h.1, h.2.1, trivial⟩
end Go.Proofs.YthncinngkfflgaaGreat
