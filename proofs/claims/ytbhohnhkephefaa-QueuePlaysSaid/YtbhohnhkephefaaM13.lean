import Derived.Test.YtbhohnhkephefaaM12
import Derived.Test.YtbhohnhkephefaaM11

/- Rows of fractions: the reference's Dot, AddTimes. -/
set_option linter.unusedVariables false
set_option linter.unusedSimpArgs false
set_option maxRecDepth 100000
namespace Go.Proofs.Ytbhohnhkephefaa
open Go.RowKit Go.Shelf
attribute [local go_sem ↓] Go.wp_at_zero Go.wp_at_succ

/-- what a round of the reference's Dot holds -/
def RDotAt (w : World) (g : Nat) (ps : List Rat) (k : Nat) (wr : World) : Prop :=
  ∃ s A n c A' n' c', Row wr g 35 [.bool s, .slice A n c, .bool false, .slice A' n' c'] ∧ On wr (fun b => w.heap.size < b ∧ b ≠ g) (fun W => OwnR W 0 (.agg #[.bool s, .slice A n c, .bool false, .slice A' n' c']) (sumR (ps.take k))) ∧
    Row wr w.heap.size 35 [.bool false, .slice none 0 0, .bool false, .slice none 0 0] ∧ Later w wr ∧ w.heap.size < g

end Go.Proofs.Ytbhohnhkephefaa


/- Rows of fractions: Same, Few; and rows that are not of one length. -/
set_option linter.unusedVariables false
set_option linter.unusedSimpArgs false
set_option maxRecDepth 100000
namespace Go.Proofs.Ytbhohnhkephefaa
open Go.RowKit Go.Shelf
attribute [local go_sem ↓] Go.wp_at_zero Go.wp_at_succ

/-- a fraction as it may come in, of whatever size -/
def EAny : Elem := fun w v q => ∃ k, RawR w v q k
theorem EAny.later (w w' : World) (v : Value) (q : Rat) (h : EAny w v q) (hb : Later w w') : EAny w' v q := by
  obtain ⟨k, h⟩ := h; exact ⟨k, h.later hb⟩
theorem rawI_small {w : World} {s : Bool} {A : Option Addr} {n c k m : Nat} {z : Int} (h : RawI w (.agg #[.bool s, .slice A n c]) z k) (hn : n ≤ m) : RawI w (.agg #[.bool s, .slice A n c]) z m := by
  obtain ⟨neg, A3, n3, c3, l, e3, hu, hz, hl⟩ := h
  injection e3 with e3; injection e3 with e3; injection e3 with e4 e3; injection e3 with e5 e3
  obtain ⟨A4, c4, e6, -, -, -, -⟩ := hu.form
  rw [← e5] at e6
  injection e6 with _ e7 _
  exact ⟨neg, A3, n3, c3, l, by rw [e4, e5], hu, hz, by omega⟩
theorem rawR_small {w : World} {s s' : Bool} {A A' : Option Addr} {n c n' c' m : Nat} {q : Rat} (h : EAny w (.agg #[.bool s, .slice A n c, .bool s', .slice A' n' c']) q) (hn : n ≤ m) (hn' : n' ≤ m) : RawR w (.agg #[.bool s, .slice A n c, .bool s', .slice A' n' c']) q m := by
  obtain ⟨k, a, A1, n1, c1, b, A2, n2, c2, x, y, e, h1, h2, h3⟩ := h
  injection e with e; injection e with e; injection e with e1 e; injection e with e2 e; injection e with e3 e; injection e with e4 e
  injection e1 with e1; injection e2 with e5 e6 e7; injection e3 with e3; injection e4 with e8 e9 e10
  subst e1 e3 e5 e6 e7 e8 e9 e10
  exact ⟨_, _, _, _, _, _, _, _, x, y, rfl, rawI_small h1 hn, rawI_small h2 hn', h3⟩

/-- the i-th element of a row -/
def RatAt (E : Elem) (w : World) (A : Option Addr) (i : Nat) (q : Rat) : Prop :=
  ∃ b off s A1 n1 c1 s' A2 n2 c2, A = some ⟨b, off, none⟩ ∧ w.cell? ⟨b, off + i * 4, none⟩ = some (.bool s) ∧ w.cell? ⟨b, off + i * 4 + 1, none⟩ = some (.slice A1 n1 c1) ∧
    w.cell? ⟨b, off + i * 4 + 2, none⟩ = some (.bool s') ∧ w.cell? ⟨b, off + i * 4 + 3, none⟩ = some (.slice A2 n2 c2) ∧ E w (.agg #[.bool s, .slice A1 n1 c1, .bool s', .slice A2 n2 c2]) q

/-- what Few tells -/
def FewPost (w : World) (v : Value) (l : List Rat) (most : Nat) (e : Ending) (w' : World) : Prop := ∃ t, e = .returned (.bool t) ∧ (t = true → l.length ≤ most ∧ Rats (ERaw 1) w v l) ∧ w = w'

set_option maxHeartbeats 4000000 in
theorem few_calls (w : World) (v : Value) (l : List Rat) (most : Nat) (h : Rats EAny w v l) (hm : most ≤ 1000000) :
    Calls Try.prog 10 #[v, .int .i64 (most : Int)] w (FewPost w v l most) := by
  have H := hide h
  obtain ⟨A0, na, ca, rfl, hna, hcap, hcm, -⟩ := h.form
  have HNA := hide hna
  clear h hna
  by_cases hle : most < na
  · have t1 : decide ((most : Int) < na) = true := by simp; omega
    go_enter Try.func10, Try.ntmps10
    go_wp2_with fail
    go_ret
    exact ⟨false, rfl, by simp, rfl⟩
  · have t1 : decide ((most : Int) < na) = false := by simp; omega
    go_enter Try.func10, Try.ntmps10
    go_wp2_with fail
    go_loop [5] (fun i => ∃ j : Nat, j ≤ na ∧ i = .int .i64 (j : Int) ∧ Hid (∀ i q, i < j → l[i]? = some q → RatAt (ERaw 1) w A0 i q)) (fun i => (na - intOf i).toNat)
    case atStart => exact ⟨0, by omega, rfl, hide fun i q hi => by omega⟩
    case round =>
      obtain ⟨j, hj, rfl, hpre⟩ := hrel
      by_cases hjn : j < na
      · obtain ⟨x, hx⟩ : ∃ x, l[j]? = some x := ⟨l[j]'(by have := HNA.out; omega), List.getElem?_eq_getElem _⟩
        obtain ⟨b1, off1, sx, A1, n1, c1, sx', A2, n2, c2, rfl, x1, x2, x3, x4, ex⟩ := H.out.at_ hx
        have EX := hide ex; have HX := hide hx
        have hj0 : (0 : Int) ≤ (j : Int) := by omega
        have hj1 : (j : Int) < na := by omega
        clear ex hx
        by_cases h1 : n1 ≤ 1
        · have u1 : decide ((1 : Int) < n1) = false := by simp; omega
          have u1' : decide (1 < n1) = false := by simp; omega
          by_cases h2 : n2 ≤ 1
          · have u2 : decide ((1 : Int) < n2) = false := by simp; omega
            have u2' : decide (1 < n2) = false := by simp; omega
            have HP : Hid (∀ i q, i < j + 1 → l[i]? = some q → RatAt (ERaw 1) w (some ⟨b1, off1, none⟩) i q) := hide fun i q hi hq => by
              by_cases hij : i < j
              · exact hpre.out i q hij hq
              · obtain rfl : i = j := by omega
                rw [HX.out] at hq
                injection hq with hq
                subst hq
                exact ⟨b1, off1, sx, A1, n1, c1, sx', A2, n2, c2, rfl, x1, x2, x3, x4, rawR_small EX.out h1 h2⟩
            go_wp2
            go_round
            case rel => exact ⟨j+1, by omega, by go_num, HP⟩
            case measure => simp [intOf]; omega
          · have u2 : decide ((1 : Int) < n2) = true := by simp; omega
            have u2' : decide (1 < n2) = true := by simp; omega
            go_wp2
            go_ret
            exact ⟨false, rfl, by simp, rfl⟩
        · have u1 : decide ((1 : Int) < n1) = true := by simp; omega
          have u1' : decide (1 < n1) = true := by simp; omega
          go_wp2
          go_ret
          exact ⟨false, rfl, by simp, rfl⟩
      · obtain rfl : j = na := by omega
        have HF : Hid (l.length ≤ most ∧ Rats (ERaw 1) w (.slice A0 j ca) l) := hide ⟨by rw [← HNA.out]; omega, A0, ca, by rw [HNA.out], by rw [← HNA.out]; exact hcap, hcm, fun i q hi => hpre.out i q (by rw [HNA.out]; exact (List.getElem?_eq_some_iff.1 hi).1) hi⟩
        go_wp2
        go_ret
        exact ⟨true, rfl, fun _ => HF.out, rfl⟩

end Go.Proofs.Ytbhohnhkephefaa


/- Tables of fractions in memory. -/
set_option linter.unusedVariables false
set_option linter.unusedSimpArgs false
namespace Go.Proofs.Ytbhohnhkephefaa
open Go.RowKit

/-- an element's fact that hangs on some blocks alone -/
def EOn (P : Nat → Prop) (E : Elem) : Elem := fun w v q => On w P (fun W => E W v q)
theorem EOn.later {P : Nat → Prop} {E : Elem} (w w' : World) (v : Value) (q : Rat) (h : EOn P E w v q) (hb : Later w w') : EOn P E w' v q := On.later h hb
theorem OutRats.ratsOn {E : Elem} {w : World} {P : Nat → Prop} {lo : Nat} {v : Value} {l : List Rat} (h : OutRats E w P lo v l) : Rats (EOn P E) w v l := by
  have h' : OutRats (EOn P E) w P lo v l := by
    obtain ⟨es, h1, h2, h3, h4⟩ := h
    refine ⟨es, h1, h2, h3, ?_⟩
    obtain ⟨F, f1, f2⟩ := h4
    exact ⟨F, f1, fun W hW i e q hi hq => ⟨F, fun b hb => ⟨(f1 b hb).1.1, by
      have h5 := hW b hb
      rw [Array.getElem?_eq_getElem (f1 b hb).2] at h5
      exact (Array.getElem?_eq_some_iff.1 h5).1⟩, fun W' hW' => f2 W' (fun b hb => (hW' b hb).trans (hW b hb)) i e q hi hq⟩⟩
  exact h'.rats.now

/-- a slice that reads as a table -/
def Tab (E : Elem) (w : World) (v : Value) (t : List (List Rat)) : Prop :=
  ∃ A c, v = .slice A t.length c ∧ t.length ≤ c ∧ c ≤ maxLen ∧ ∀ i row, t[i]? = some row → ∃ b off A' n' c', A = some ⟨b, off, none⟩ ∧ w.cell? ⟨b, off + i, none⟩ = some (.slice A' n' c') ∧ Rats E w (.slice A' n' c') row
theorem Tab.later {E : Elem} (hE : ∀ w w' v q, E w v q → Later w w' → E w' v q) {w w' : World} {v : Value} {t : List (List Rat)} (h : Tab E w v t) (hb : Later w w') : Tab E w' v t := by
  obtain ⟨A, c, e, h1, h2, h3⟩ := h
  refine ⟨A, c, e, h1, h2, fun i row hi => ?_⟩
  obtain ⟨b, off, A', n', c', ha, x1, x2⟩ := h3 i row hi
  exact ⟨b, off, A', n', c', ha, Later.cell hb x1, x2.later hE hb⟩
theorem Tab.map {E E' : Elem} {w : World} {v : Value} {t : List (List Rat)} (h : Tab E w v t) (hE : ∀ row ∈ t, ∀ v q, q ∈ row → E w v q → E' w v q) : Tab E' w v t := by
  obtain ⟨A, c, e, h1, h2, h3⟩ := h
  refine ⟨A, c, e, h1, h2, fun i row hi => ?_⟩
  obtain ⟨b, off, A', n', c', ha, x1, x2⟩ := h3 i row hi
  exact ⟨b, off, A', n', c', ha, x1, x2.map (hE row (List.mem_of_getElem? hi))⟩
theorem Tab.form {E : Elem} {w : World} {v : Value} {t : List (List Rat)} (h : Tab E w v t) : ∃ A n c, v = .slice A n c ∧ n = t.length ∧ n ≤ c ∧ c ≤ maxLen ∧ Tab E w (.slice A n c) t := by
  obtain ⟨A, c, rfl, h1, h2, h3⟩ := id h
  exact ⟨A, _, c, rfl, rfl, h1, h2, h⟩
theorem Tab.at_ {E : Elem} {w : World} {A : Option Addr} {n c : Nat} {t : List (List Rat)} (h : Tab E w (.slice A n c) t) {i : Nat} {row : List Rat} (hi : t[i]? = some row) :
    ∃ b off A' n' c', A = some ⟨b, off, none⟩ ∧ w.cell? ⟨b, off + i, none⟩ = some (.slice A' n' c') ∧ Rats E w (.slice A' n' c') row := by
  obtain ⟨A', c', e, -, -, h3⟩ := h
  injection e with e1 e2 e3
  subst e1
  exact h3 i row hi

/-- a table of one's own that is being built -/
def OutTab (E : Elem) (w : World) (P : Nat → Prop) (lo : Nat) (v : Value) (t : List (List Rat)) : Prop :=
  ∃ es : List Value, es.length = t.length ∧ w.ownsRow lo 27 1 v t.length es ∧ (∀ e ∈ es, ∃ A n c, e = .slice A n c) ∧
    On w (fun b => P b ∧ some b ≠ v.ownBlock) (fun W => ∀ (i : Nat) (e : Value) (row : List Rat), es[i]? = some e → t[i]? = some row → Rats E W e row)
theorem OutTab.nil (E : Elem) (w : World) (P : Nat → Prop) (lo : Nat) : OutTab E w P lo (.slice none 0 0) [] :=
  ⟨[], rfl, World.ownsRow_nil w lo _ 1, by simp, On.pure fun W i e q hi => by simp at hi⟩
theorem OutTab.later {E : Elem} {w w' : World} {P : Nat → Prop} {lo : Nat} {v : Value} {t : List (List Rat)} (h : OutTab E w P lo v t) (hb : Later w w') : OutTab E w' P lo v t := by
  obtain ⟨es, h1, h2, h3, h4⟩ := h
  exact ⟨es, h1, ownsRow_later h2 hb, h3, h4.later hb⟩
theorem OutTab.mono {E : Elem} {w : World} {P P' : Nat → Prop} {lo : Nat} {v : Value} {t : List (List Rat)} (h : OutTab E w P lo v t) (hp : ∀ b, P b → b < w.heap.size → P' b) : OutTab E w P' lo v t := by
  obtain ⟨es, h1, h2, h3, h4⟩ := h
  exact ⟨es, h1, h2, h3, h4.mono fun b hb hlt => ⟨hp b hb.1 hlt, hb.2⟩⟩
theorem ownsRow_weaken {w : World} {B C size n : Nat} {e : TypeId} {v : Value} {xs : List Value} (h : w.ownsRow B e size v n xs) (hC : C ≤ B) : w.ownsRow C e size v n xs := by
  obtain ⟨h2, h3⟩ := h
  refine ⟨h2, ?_⟩
  rcases h3 with h3 | ⟨g, cap, cur, rfl, hb', hg, r⟩
  · exact .inl h3
  · exact .inr ⟨g, cap, cur, rfl, Nat.le_trans hC hb', hg, r⟩
theorem OutTab.weaken {E : Elem} {w : World} {P : Nat → Prop} {lo lo' : Nat} {v : Value} {t : List (List Rat)} (h : OutTab E w P lo v t) (hl : lo' ≤ lo) : OutTab E w P lo' v t := by
  obtain ⟨es, h1, h2, h3, h4⟩ := h
  exact ⟨es, h1, ownsRow_weaken h2 hl, h3, h4⟩
theorem OutTab.lt {E : Elem} {w : World} {P : Nat → Prop} {lo : Nat} {v : Value} {t : List (List Rat)} (h : OutTab E w P lo v t) : ∀ k, v.ownBlock = some k → lo ≤ k ∧ k < w.heap.size := by
  obtain ⟨es, h1, h2, -⟩ := h; exact World.ownsRow.lt h2
theorem OutTab.snoc {E : Elem} {w W : World} {P : Nat → Prop} {lo : Nat} {v v' : Value} {t : List (List Rat)} {row : List Rat} {A : Option Addr} {n c : Nat}
    (es : List Value) (h1 : es.length = t.length) (h3 : ∀ e ∈ es, ∃ A n c, e = .slice A n c)
    (h4 : On w (fun b => P b ∧ some b ≠ v.ownBlock) (fun W => ∀ (i : Nat) (e : Value) (row : List Rat), es[i]? = some e → t[i]? = some row → Rats E W e row))
    (hown : W.ownsRow lo 27 1 v' (t.length + 1) (es ++ [.slice A n c])) (hg : w.grownBy W v.ownBlock) (hblk : v'.ownBlock = v.ownBlock ∨ v'.ownBlock = some w.heap.size)
    (hx : On w (fun b => P b ∧ some b ≠ v.ownBlock) (fun W => Rats E W (.slice A n c) row)) : OutTab E W P lo v' (t ++ [row]) := by
  refine ⟨es ++ [.slice A n c], by simp [h1], by rw [List.length_append]; exact hown, ?_, ?_⟩
  · intro e he
    rcases List.mem_append.1 he with he | he
    · exact h3 e he
    · simp at he; subst he; exact ⟨_, _, _, rfl⟩
  · have h6 : On W (fun b => P b ∧ some b ≠ v'.ownBlock) _ := (by
      obtain ⟨F, f1, f2⟩ := h4.and hx
      refine ⟨F, fun b hb => ⟨⟨(f1 b hb).1.1, ?_⟩, Nat.lt_of_lt_of_le (f1 b hb).2 hg.size⟩, fun W' hW' => f2 W' fun b hb => (hW' b hb).trans (hg.block b (f1 b hb).2 (f1 b hb).1.2)⟩
      rcases hblk with e | e
      · rw [e]; exact (f1 b hb).1.2
      · rw [e]; intro e2; injection e2 with e2; have := (f1 b hb).2; omega)
    refine h6.map fun W' ⟨k1, k2⟩ i e q' hi hq => ?_
    by_cases hlt : i < es.length
    · rw [List.getElem?_append_left hlt] at hi
      rw [List.getElem?_append_left (by omega)] at hq
      exact k1 i e q' hi hq
    · by_cases he : i = es.length
      · subst he
        rw [List.getElem?_append_right (Nat.le_refl _), Nat.sub_self] at hi
        rw [h1, List.getElem?_append_right (Nat.le_refl _), Nat.sub_self] at hq
        simp at hi hq
        subst hi hq
        exact k2
      · rw [List.getElem?_eq_none (by simp; omega)] at hi; cases hi
theorem OutTab.tab {E : Elem} {w : World} {P : Nat → Prop} {lo : Nat} {v : Value} {t : List (List Rat)} (h : OutTab E w P lo v t) : On w (fun b => P b ∨ lo ≤ b) (fun W => Tab E W v t) := by
  obtain ⟨es, h1, ⟨h2, h2'⟩, h3, h4⟩ := h
  rcases h2' with ⟨rfl, h0⟩ | ⟨g, cap, cur, rfl, hb, hg, hn, hm, hs, ht⟩
  · have : t = [] := List.eq_nil_of_length_eq_zero h0
    subst this
    exact On.pure fun W => ⟨none, 0, rfl, by simp, by simp, fun i q hi => by simp at hi⟩
  · have hrow : Row w g 27 cur.toList := by unfold Row; simpa using hg
    have h5 : On w (fun b => P b ∨ lo ≤ b) (fun W => Row W g 27 cur.toList) := On.of_row hrow (.inr hb) fun W hW => hW
    refine (h5.and (h4.mono fun b hb _ => .inl hb.1)).map fun W ⟨hr, he⟩ => ?_
    refine ⟨some ⟨g, 0, none⟩, cap, rfl, hn, hm, fun i row hi => ?_⟩
    have hil : i < es.length := by rw [h1]; exact (List.getElem?_eq_some_iff.1 hi).1
    obtain ⟨e, hee⟩ : ∃ e, es[i]? = some e := ⟨es[i], List.getElem?_eq_getElem hil⟩
    obtain ⟨A1, n1, c1, rfl⟩ := h3 e (List.mem_of_getElem? hee)
    refine ⟨g, 0, A1, n1, c1, rfl, ?_, he i _ row hee hi⟩
    rw [Nat.zero_add]
    refine hr.cell ?_
    rw [← ht, List.getElem?_take] at hee
    split at hee
    · exact hee
    · cases hee

theorem info_row : (Try.prog.info? 27).map (fun i => (i.zero, i.size, i.bytes)) = some (some (.slice none 0 0), 1, 24) := by kernel_rfl

section
variable {w : World} {o : Oper} {a : Act} {K : Act → World → Prop} {Q : Exit → Act → World → Prop}
end
end Go.Proofs.Ytbhohnhkephefaa


/- Tables: IndexFunc, ContainsFunc, Rect, is. -/
set_option linter.unusedVariables false
set_option linter.unusedSimpArgs false
set_option maxRecDepth 100000
namespace Go.Proofs.Ytbhohnhkephefaa
open Go.RowKit Go.Shelf
attribute [local go_sem ↓] Go.wp_at_zero Go.wp_at_succ

/-- the first place where p is so; -1: nowhere -/
def FirstIdx (p : List Rat → Bool) (t : List (List Rat)) (z : Int) : Prop := (z = -1 ∧ ∀ row ∈ t, p row = false) ∨ ∃ (i : Nat) (row : List Rat), z = i ∧ t[i]? = some row ∧ p row = true ∧ ∀ j r, j < i → t[j]? = some r → p r = false
/-- a number, and what is so of it -/
def RetZ (w : World) (P : Int → Prop) (e : Ending) (w' : World) : Prop := ∃ z : Int, e = .returned (.int .i64 z) ∧ P z ∧ Later w w'

theorem firstIdx_any {p : List Rat → Bool} {t : List (List Rat)} {z : Int} (h : FirstIdx p t z) : decide (0 ≤ z) = t.any p := by
  rcases h with ⟨rfl, h⟩ | ⟨i, row, rfl, h1, h2, h3⟩
  · have : t.any p = false := by
      rw [List.any_eq_false]; intro x hx; rw [h x hx]; simp
    rw [this]; simp
  · have : t.any p = true := by
      rw [List.any_eq_true]; exact ⟨row, List.mem_of_getElem? h1, h2⟩
    rw [this]; simp

/-- whether each row has so many -/
def rectB (t : List (List Rat)) (n : Nat) : Bool := t.all fun r => decide (r.length = n)
theorem rectB_any (t : List (List Rat)) (n : Nat) : t.any (fun r => decide (r.length ≠ n)) = !rectB t n := by
  induction t with
  | nil => rfl
  | cons r t ih => rw [List.any_cons, ih]; unfold rectB; rw [List.all_cons]; by_cases h : r.length = n <;> simp [h]

theorem field_num (a b c d : Value) (w : World) : (Instr.field 35 (.agg #[a, b, c, d]) 0).run Try.prog w = .ok (.agg #[a, b]) w := by kernel_rfl
theorem field_mag (a b : Value) (w : World) : (Instr.field 33 (.agg #[a, b]) 1).run Try.prog w = .ok b w := by kernel_rfl
end Go.Proofs.Ytbhohnhkephefaa
