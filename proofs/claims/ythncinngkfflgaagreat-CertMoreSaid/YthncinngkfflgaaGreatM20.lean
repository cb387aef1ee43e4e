import Derived.Test.YthncinngkfflgaaGreatM16
import Derived.Test.YthncinngkfflgaaGreatM17

/- LinRows: the walk. -/
set_option linter.unusedVariables false
set_option linter.unusedSimpArgs false
set_option maxRecDepth 100000
namespace Go.Proofs.YthncinngkfflgaaGreat
open Go.RowKit Go.Shelf
attribute [local go_sem ↓] Go.wp_at_zero Go.wp_at_succ

theorem rats_one_inv {E : Elem} {w : World} {g : Nat} {s s' : Bool} {A A' : Option Addr} {n c n' c' : Nat} {p : Rat} (hr : Row w g 37 [.bool s, .slice A n c, .bool s', .slice A' n' c']) (h : Rats E w (.slice (some ⟨g, 0, none⟩) 1 1) [p]) :
    E w (.agg #[.bool s, .slice A n c, .bool s', .slice A' n' c']) p := by
  obtain ⟨b, off, t, B, m, d, t', B', m', d', e, x1, x2, x3, x4, hE⟩ := h.at_ (i := 0) rfl
  injection e with e; injection e with e1 e2
  subst e1 e2
  rw [show ((0 : Nat) + 0 * 4) = 0 from rfl] at x1 x2 x3 x4
  rw [hr.cell (i := 0) rfl] at x1
  rw [hr.cell (i := 1) rfl] at x2
  rw [hr.cell (i := 2) rfl] at x3
  rw [hr.cell (i := 3) rfl] at x4
  injection x1 with x1; injection x2 with x2; injection x3 with x3; injection x4 with x4
  rw [x1, x2, x3, x4]; exact hE

theorem Rats.nil' (E : Elem) (W : World) : Rats E W (.slice none 0 0) [] := ⟨none, 0, rfl, by simp, by decide, fun i q h => by simp at h⟩
end Go.Proofs.YthncinngkfflgaaGreat


/- LinDots: the walk. -/
set_option linter.unusedVariables false
set_option linter.unusedSimpArgs false
set_option maxRecDepth 100000
namespace Go.Proofs.YthncinngkfflgaaGreat
open Go.RowKit Go.Shelf
attribute [local go_sem ↓] Go.wp_at_zero Go.wp_at_succ

theorem made_flat (n : Nat) : (madeCells (#[.bool false, .slice none 0 0, .bool false, .slice none 0 0] : Array Value) (n * 4)).toList = (List.replicate n ((false, .slice none 0 0, false, .slice none 0 0) : Bool × Value × Bool × Value)).flatMap fun (e : Bool × Value × Bool × Value) => [.bool e.1, e.2.1, .bool e.2.2.1, e.2.2.2] := by
  induction n with
  | zero => simp [madeCells]
  | succ n ih =>
    rw [List.replicate_succ', List.flatMap_append, ← ih]
    apply List.ext_getElem
    · simp [madeCells]; omega
    · intro k h1 h2
      by_cases hk : k < n * 4
      · rw [List.getElem_append_left (by simpa [madeCells] using hk)]
        simp [madeCells]
      · have h3 : k < (n + 1) * 4 := by simpa [madeCells] using h1
        rw [List.getElem_append_right (by simpa [madeCells] using hk)]
        obtain ⟨j, hj, rfl⟩ : ∃ j, j < 4 ∧ k = n * 4 + j := ⟨k - n * 4, by omega, by omega⟩
        simp only [madeCells, Array.toList_map, Array.toList_range, List.getElem_map, List.getElem_range, List.length_map, List.length_range]
        match j, hj with
        | 0, _ => simp
        | 1, _ => simp
        | 2, _ => simp
        | 3, _ => simp

theorem cmpQ_self (a : Rat) : cmpQ a a = 0 := by
  unfold cmpQ; simp
theorem qcmp_same (w : World) (va vb : Value) (a : Rat) (k m : Nat) (ha : RawR w va a k) (hb : RawR w vb a m) (hkm : k + m ≤ 80000000) :
    Calls Tryz.prog 19 #[va, vb] w (RetV w (.int .i64 0)) := by
  have h := qcmp_calls w va vb a a k m ha hb hkm
  rwa [cmpQ_self] at h

theorem raw_zero (W : World) : RawR W (.agg #[.bool false, .slice none 0 0, .bool false, .slice none 0 0]) 0 1 := by
  refine ⟨false, none, 0, 0, false, none, 0, 0, 0, 0, rfl, ?_, ?_, rfl⟩
  · exact ⟨false, none, 0, 0, [], rfl, U32s.nil W, rfl, by simp⟩
  · exact ⟨false, none, 0, 0, [], rfl, U32s.nil W, rfl, by simp⟩

theorem wpList_make_rats {w : World} {ops : Array Oper} {rest : List Oper} {o : Oper} {a : Act} {Q : Exit → Act → World → Prop}
    (hg : o.guard = none) (l : Operand) (hop : o.op = Op.makeSlice 23 l l) (L : Int) (n : Nat) (hl : a.eval l = .int .i64 L) (hL : L = (n : Int)) (b2 : n ≤ 1000000000)
    (hK : ∀ g w', w.heap.size ≤ g → OutRats (ERaw 1) w' (fun _ => False) w.heap.size (.slice (some ⟨g, 0, none⟩) n n) (List.replicate n 0) → Later w w' → wpList Tryz.prog ops Q rest (a.put o.dst (.slice (some ⟨g, 0, none⟩) n n)) w') :
    wpList Tryz.prog ops Q (o :: rest) a w := by
  obtain ⟨i, hi, hz, hs, hb⟩ := info_parts info_rat
  refine wpList_make_full w hg l l 23 hop w.heap.size 37 i (.agg #[.bool false, .slice none 0 0, .bool false, .slice none 0 0]) 4 Tryz.underlying23 hi hz hs .i64 .i64 L L n hl hl hL hL (by rw [hb]; omega) (by unfold maxLen; omega) (Nat.le_refl _) ?_
  intro w' hown hgr
  refine hK _ w' (Nat.le_refl _) ?_ (Later.grown (Later.refl w) hgr (fun k hk => by cases hk))
  refine ⟨List.replicate n (false, .slice none 0 0, false, .slice none 0 0), by simp, ?_, ?_, ?_⟩
  · rw [List.length_replicate, ← made_flat]; exact hown
  · intro e he
    rw [List.mem_replicate] at he
    obtain ⟨-, rfl⟩ := he
    exact ⟨⟨_, _, _, rfl⟩, ⟨_, _, _, rfl⟩⟩
  · refine On.pure fun W i e q he hq => ?_
    rw [List.getElem?_replicate] at he hq
    split at he
    · rename_i hin
      rw [if_pos hin] at hq
      injection he with he; injection hq with hq
      subst he hq
      exact raw_zero W
    · cases he

end Go.Proofs.YthncinngkfflgaaGreat
