import Derived.Test.YtbhohnhkephefaaM17
import Derived.Test.YtbhohnhkephefaaM29
import Derived.Deep.Strs

/- A row of acts that came in reads as acts, of whatever size. -/
set_option linter.unusedVariables false
set_option linter.unusedSimpArgs false
set_option maxRecDepth 100000
namespace Go.Proofs.Ytbhohnhkephefaa
open Go.RowKit Go.Shelf Go.ChangeShapes Go.WideShapes Go.Deep
section
variable {H : Type} {enc : TypeId × Value → H} {w : World} {base : Nat} {spare : Nat → Bool} {held : Bool}
theorem cellsAct : Try.prog.cellsOf 37 = 6 := by kernel_rfl
theorem cellsI : Try.prog.cellsOf 3 = 1 := by kernel_rfl
theorem act_open {fuel : Nat} {cs : List Value} {y : DataW H × List MemPlace} (h : DataW.trod enc Try.prog w base spare held fuel 37 cs = some y) :
    ∃ kind s A n c s' A' n' c' id q, cs = [.int .i64 kind, .bool s, .slice A n c, .bool s', .slice A' n' c', .int .i64 id] ∧ EAny w (.agg #[.bool s, .slice A n c, .bool s', .slice A' n' c']) q := by
  obtain ⟨y0, y1, y2, m, -, hlen, h0, h1, h2⟩ := trod_struct3 Try.underlying37 h
  rw [cellsAct] at hlen
  match cs, hlen with
  | [c0, c1, c2, c3, c4, c5], _ =>
    simp only [cellsRat, cellsI, List.drop_zero, List.drop_succ_cons, List.take_succ_cons, List.take_zero] at h0 h1 h2
    obtain ⟨kind, e0, -⟩ := DataW.trod_int Try.underlying3 h0
    obtain ⟨s, A, n, c, s', A', n', c', q, e1, hq⟩ := rat_open h1
    obtain ⟨id, e2, -⟩ := DataW.trod_int Try.underlying3 h2
    simp at e0 e1 e2
    obtain ⟨rfl, rfl, rfl, rfl⟩ := e1
    subst e0 e2
    exact ⟨kind, s, A, n, c, s', A', n', c', id, q, rfl, hq⟩
theorem acts_open {fuel : Nat} {cs : List Value} {y : DataW H × List MemPlace} (h : DataW.trod enc Try.prog w base spare held fuel 22 cs = some y) :
    ∃ A n c l, cs = [.slice A n c] ∧ Acts w (.slice A n c) l := by
  rcases open_slice Try.underlying22 h with ⟨rfl, -⟩ | ⟨a, n, c, m, f, D, Pl, rfl, -, hl, hm, hmm, -, hx⟩
  · exact ⟨_, _, _, [], rfl, none, 0, rfl, by simp, by decide, fun i q hi => by simp at hi⟩
  · have hnm : n ≤ m := by rw [hmm]; split <;> omega
    rcases Nat.eq_zero_or_pos n with rfl | hpos
    · exact ⟨_, _, _, [], rfl, some a, c, rfl, by simp, hm, fun i q hi => by simp at hi⟩
    obtain ⟨b0, off0, spot⟩ := a
    obtain rfl : spot = none := by
      obtain ⟨cs, h1, h2⟩ := hx 0 (by omega)
      obtain ⟨kind, s, A, n', c', s', A', n'', c'', id, q, rfl, hq⟩ := act_open h2
      rw [cellsAct] at h1
      obtain ⟨-, -, h3⟩ := World.cells?_some h1
      have := World.cell?_spot (h3 0 (by omega))
      simpa [Addr.add] using this
    have key : ∀ i, i < n → ∃ x : Int × Rat × Int, ∃ b off s A1 n1 c1 s' A2 n2 c2, (⟨b0, off0, none⟩ : Addr) = ⟨b, off, none⟩ ∧ w.cell? ⟨b, off + i * 6, none⟩ = some (.int .i64 x.1) ∧ w.cell? ⟨b, off + i * 6 + 1, none⟩ = some (.bool s) ∧ w.cell? ⟨b, off + i * 6 + 2, none⟩ = some (.slice A1 n1 c1) ∧
        w.cell? ⟨b, off + i * 6 + 3, none⟩ = some (.bool s') ∧ w.cell? ⟨b, off + i * 6 + 4, none⟩ = some (.slice A2 n2 c2) ∧ w.cell? ⟨b, off + i * 6 + 5, none⟩ = some (.int .i64 x.2.2) ∧ EAny w (.agg #[.bool s, .slice A1 n1 c1, .bool s', .slice A2 n2 c2]) x.2.1 := fun i hi => by
      obtain ⟨cs, h1, h2⟩ := hx i (by omega)
      obtain ⟨kind, s, A, n', c', s', A', n'', c'', id, q, rfl, hq⟩ := act_open h2
      rw [cellsAct] at h1
      obtain ⟨-, -, h3⟩ := World.cells?_some h1
      have h4 := h3 0 (by omega); have h5 := h3 1 (by omega); have h6 := h3 2 (by omega); have h7 := h3 3 (by omega); have h8 := h3 4 (by omega); have h9 := h3 5 (by omega)
      simp only [add_plain, Nat.add_zero] at h4 h5 h6 h7 h8 h9
      exact ⟨(kind, q, id), b0, off0, s, A, n', c', s', A', n'', c'', rfl, h4, h5, h6, h7, h8, h9, hq⟩
    obtain ⟨Q, hQ⟩ := choose_lt (α := Int × Rat × Int) key
    refine ⟨_, _, _, (List.range n).map Q, rfl, some ⟨b0, off0, none⟩, c, by simp, by simpa using hl, hm, fun i q hi => ?_⟩
    have hin : i < n := by
      have := (List.getElem?_eq_some_iff.1 hi).1
      simpa using this
    obtain ⟨b, off, s, A1, n1, c1, s', A2, n2, c2, e0, x⟩ := hQ i hin
    simp [hin] at hi
    subst hi
    exact ⟨b, off, s, A1, n1, c1, s', A2, n2, c2, by rw [e0], x⟩
theorem arg_acts {r : Reach} {b0 : Nat} {v : Value} {d : DataW H} {p : List MemPlace} (hv : Value.okWide Try.prog w r b0 22 v) (h : DataW.Trod enc Try.prog w base spare held 22 v d p) : ∃ l, Acts w v l := by
  obtain ⟨A, n, c, rfl⟩ := okWide_slice Try.underlying22 hv
  obtain ⟨fuel, hf⟩ := h
  obtain ⟨A', n', c', l, e, hl⟩ := acts_open hf
  simp [Value.cells] at e
  obtain ⟨rfl, rfl, rfl⟩ := e
  exact ⟨l, hl⟩
end
end Go.Proofs.Ytbhohnhkephefaa
