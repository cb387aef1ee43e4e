import Derived.Test.YtbhohnhkephefaaM16
import Derived.Test.YtbhohnhkephefaaM17
import Derived.Test.YtbhohnhkephefaaM21

/- Queues: entries; which one is first. -/
set_option linter.unusedVariables false
set_option linter.unusedSimpArgs false
set_option maxRecDepth 100000
namespace Go.Proofs.Ytbhohnhkephefaa
open Go.RowKit Go.Shelf
attribute [local go_sem ↓] Go.wp_at_zero Go.wp_at_succ

/-- an entry as it lies in memory, and the number that its key stands for -/
structure Ent where
  s : Bool
  A : Option Addr
  n : Nat
  c : Nat
  A' : Option Addr
  n' : Nat
  c' : Nat
  id : Int
  at_ : Nat
  key : Rat
def Ent.cells (e : Ent) : List Value := [.bool e.s, .slice e.A e.n e.c, .bool false, .slice e.A' e.n' e.c', .int .i64 e.id, .int .i64 (e.at_ : Int)]
/-- its key is the one that it says, and not too long -/
def Ent.ok (w : World) (e : Ent) : Prop := OwnR w 0 (.agg #[.bool e.s, .slice e.A e.n e.c, .bool false, .slice e.A' e.n' e.c']) e.key
theorem Ent.ok.later {w w' : World} {e : Ent} (h : e.ok w) (hb : Later w w') : e.ok w' := OwnR.later h hb
/-- whether one is ahead of another one -/
def Ent.first (e o : Ent) : Prop := e.key < o.key ∨ (e.key = o.key ∧ e.at_ < o.at_)
theorem row_cells6 {w : World} {g : Nat} {t : TypeId} {a b c d e f : Value} (h : Row w g t [a, b, c, d, e, f]) : w.cell? ⟨g, 0, none⟩ = some a ∧ w.cell? ⟨g, 1, none⟩ = some b ∧ w.cell? ⟨g, 2, none⟩ = some c ∧ w.cell? ⟨g, 3, none⟩ = some d ∧ w.cell? ⟨g, 4, none⟩ = some e ∧ w.cell? ⟨g, 5, none⟩ = some f :=
  ⟨h.cell rfl, h.cell rfl, h.cell rfl, h.cell rfl, h.cell rfl, h.cell rfl⟩

set_option maxHeartbeats 4000000 in
theorem first_calls (w : World) (e o : Ent) (he : e.ok w) (ho : o.ok w) (hes : Sized e.key 100) (hos : Sized o.key 100) (u : Bool) (hu : u = true ↔ e.first o) :
    Calls Try.prog 117 #[.agg #[.bool e.s, .slice e.A e.n e.c, .bool false, .slice e.A' e.n' e.c', .int .i64 e.id, .int .i64 (e.at_ : Int)], .agg #[.bool o.s, .slice o.A o.n o.c, .bool false, .slice o.A' o.n' o.c', .int .i64 o.id, .int .i64 (o.at_ : Int)]] w (RetV w (.bool u)) := by
  have HE := hide he; have HO := hide ho; have HES := hide hes; have HOS := hide hos; have HU := hide hu
  obtain ⟨c, hc⟩ : ∃ c, cmpQ e.key o.key = c := ⟨_, rfl⟩
  have hc3 : (e.key < o.key ∧ c = -1) ∨ (e.key = o.key ∧ c = 0) ∨ (o.key < e.key ∧ c = 1) := by
    rw [← hc]; unfold cmpQ
    by_cases h1 : e.key < o.key
    · exact .inl ⟨h1, if_pos h1⟩
    · rw [if_neg h1]
      by_cases h2 : o.key < e.key
      · exact .inr (.inr ⟨h2, if_pos h2⟩)
      · rw [if_neg h2]; exact .inr (.inl ⟨by grind, rfl⟩)
  have HC := hide hc; have HC3 := hide hc3
  clear he ho hes hos hu hc hc3
  go_enter Try.func117, Try.ntmps117
  go_wp2_with fail
  obtain ⟨W0, hW0⟩ : ∃ W0, W0 = ((w.alloc (Obj.cells #[Value.bool e.s, Value.slice e.A e.n e.c, Value.bool false, Value.slice e.A' e.n' e.c', Value.int .i64 e.id, Value.int .i64 (e.at_ : Int)] 64)).alloc (Obj.cells #[Value.bool o.s, Value.slice o.A o.n o.c, Value.bool false, Value.slice o.A' o.n' o.c', Value.int .i64 o.id, Value.int .i64 (o.at_ : Int)] 64)) := ⟨_, rfl⟩
  obtain ⟨hb0, r1, r2, hsz⟩ := boxes2 w [.bool e.s, .slice e.A e.n e.c, .bool false, .slice e.A' e.n' e.c', .int .i64 e.id, .int .i64 (e.at_ : Int)] [.bool o.s, .slice o.A o.n o.c, .bool false, .slice o.A' o.n' o.c', .int .i64 o.id, .int .i64 (o.at_ : Int)] 64 64 hW0
  rw [← hW0]
  have R1 := hide r1; have R2 := hide r2; have B0 := hide hb0
  clear hW0 r1 r2 hb0
  refine (rcmp_calls _ _ _ e.key o.key 100 100 (OwnR.raw (HE.out.later B0.out) HES.out) (OwnR.raw (HO.out.later B0.out) HOS.out) (by omega)).mono ?_
  rintro e' w1 ⟨rfl, b1⟩
  rw [HC.out]
  obtain ⟨d1, d2, d3, d4, d5, d6⟩ := row_cells6 (R1.out.later b1)
  obtain ⟨f1, f2, f3, f4, f5, f6⟩ := row_cells6 (R2.out.later b1)
  have hL := B0.out.trans b1
  rcases HC3.out with ⟨h1, rfl⟩ | ⟨h1, rfl⟩ | ⟨h1, rfl⟩
  · have h2 : u = true := HU.out.2 (.inl h1)
    subst h2
    clear h1
    go_wp2_with fail
    go_ret
    exact ⟨rfl, hL⟩
  · have h2 : decide (e.at_ < o.at_) = u := by
      rw [Bool.eq_iff_iff, HU.out]
      unfold Ent.first
      rw [h1]
      simp
    have t2 : decide ((e.at_ : Int) < (o.at_ : Int)) = u := by rw [← h2]; simp
    have h2n := h2
    have H2 := hide h2
    clear h1 h2
    go_wp2_with fail
    go_ret
    exact ⟨by first | rfl | simp [H2.out], hL⟩
  · have h2 : u = false := by
      rw [Bool.eq_false_iff]
      intro e
      rcases HU.out.1 e with h | ⟨h, -⟩ <;> grind
    subst h2
    clear h1
    go_wp2_with fail
    go_ret
    exact ⟨rfl, hL⟩
end Go.Proofs.Ytbhohnhkephefaa


/- Queues: a row of entries in memory. -/
set_option linter.unusedVariables false
set_option linter.unusedSimpArgs false
set_option maxRecDepth 100000
namespace Go.Proofs.Ytbhohnhkephefaa
open Go.RowKit Go.Shelf
attribute [local go_sem ↓] Go.wp_at_zero Go.wp_at_succ

theorem flat6_get (L : List Ent) (i j : Nat) (hj : j < 6) (e : Ent) (hi : L[i]? = some e) : (L.flatMap Ent.cells)[i * 6 + j]? = e.cells[j]? := by
  induction L generalizing i with
  | nil => simp at hi
  | cons a L ih =>
    rw [List.flatMap_cons]
    cases i with
    | zero =>
      simp at hi; subst hi
      rw [Nat.zero_mul, Nat.zero_add, List.getElem?_append_left (by simpa [Ent.cells] using hj)]
    | succ i =>
      have h1 := ih i (by simpa using hi)
      rw [List.getElem?_append_right (by simp [Ent.cells]; omega)]
      rw [← h1]; congr 1; simp [Ent.cells]; omega
theorem flat6_len (L : List Ent) : (L.flatMap Ent.cells).length = L.length * 6 := by
  induction L with
  | nil => rfl
  | cons a L ih => rw [List.flatMap_cons, List.length_append, ih, List.length_cons]; simp [Ent.cells]; omega
theorem flat6_set (L : List Ent) (i : Nat) (e : Ent) (hi : i < L.length) (r : Nat) (hr : r < L.length * 6) : ((L.set i e).flatMap Ent.cells)[r]? = if r / 6 = i then e.cells[r % 6]? else (L.flatMap Ent.cells)[r]? := by
  have hq : r / 6 < L.length := by omega
  have e1 : r = (r / 6) * 6 + r % 6 := by omega
  obtain ⟨o, ho⟩ : ∃ o, L[r / 6]? = some o := ⟨L[r / 6], List.getElem?_eq_getElem hq⟩
  by_cases h : r / 6 = i
  · rw [if_pos h]
    have h2 : (L.set i e)[r / 6]? = some e := by rw [h, List.getElem?_set, if_pos rfl, if_pos hi]
    have h3 := flat6_get (L.set i e) (r / 6) (r % 6) (by omega) e h2
    rw [← e1] at h3; exact h3
  · rw [if_neg h]
    have h2 : (L.set i e)[r / 6]? = some o := by rw [List.getElem?_set, if_neg (fun e => h e.symm), ho]
    have h3 := flat6_get (L.set i e) (r / 6) (r % 6) (by omega) o h2
    have h4 := flat6_get L (r / 6) (r % 6) (by omega) o ho
    rw [← e1] at h3 h4; rw [h3, h4]

/-- entries in a block of one's own -/
def Arr (w : World) (g cap : Nat) (L : List Ent) : Prop := ∃ cs, Row w g 64 cs ∧ cs.length = cap * 6 ∧ L.length ≤ cap ∧ cs.take (L.length * 6) = L.flatMap Ent.cells
theorem Arr.le {w : World} {g cap : Nat} {L : List Ent} (h : Arr w g cap L) : L.length ≤ cap := by obtain ⟨cs, -, -, h, -⟩ := h; exact h
theorem Arr.lt {w : World} {g cap : Nat} {L : List Ent} (h : Arr w g cap L) : g < w.heap.size := by obtain ⟨cs, h, -⟩ := h; exact h.lt
theorem Arr.later {w w' : World} {g cap : Nat} {L : List Ent} (h : Arr w g cap L) (hb : Later w w') : Arr w' g cap L := by
  obtain ⟨cs, h1, h2⟩ := h; exact ⟨cs, h1.later hb, h2⟩
theorem Arr.block {w w' : World} {g cap : Nat} {L : List Ent} (h : Arr w g cap L) (hb : w'.heap[g]? = w.heap[g]?) : Arr w' g cap L := by
  obtain ⟨cs, h1, h2⟩ := h; exact ⟨cs, by unfold Row at *; rw [hb]; exact h1, h2⟩
theorem Arr.cell {w : World} {g cap : Nat} {L : List Ent} (h : Arr w g cap L) {i : Nat} {e : Ent} (hi : L[i]? = some e) {r : Nat} {u : Value} (hr : e.cells[r]? = some u) : w.cell? ⟨g, i * 6 + r, none⟩ = some u := by
  obtain ⟨cs, h1, h2, h3, h4⟩ := h
  have hil := (List.getElem?_eq_some_iff.1 hi).1
  have hrl : r < 6 := by have := (List.getElem?_eq_some_iff.1 hr).1; simpa [Ent.cells] using this
  refine h1.cell ?_
  have h5 := flat6_get L i r hrl e hi
  rw [← h4, List.getElem?_take, if_pos (by omega), hr] at h5
  exact h5
theorem Arr.frozen {w : World} {g cap : Nat} {L : List Ent} (h : Arr w g cap L) (i : Nat) : w.frozen? ⟨g, i, none⟩ = false := by
  obtain ⟨cs, h1, -⟩ := h; exact h1.frozen i
theorem Arr.own {w : World} {g cap lo : Nat} {L : List Ent} (h : Arr w g cap L) (hlo : lo ≤ g) (hm : cap ≤ maxLen) : w.ownsRow lo 64 6 (.slice (some ⟨g, 0, none⟩) L.length cap) L.length (L.flatMap Ent.cells) := by
  obtain ⟨cs, h1, h2, h3, h4⟩ := h
  exact ⟨flat6_len L, .inr ⟨g, cap, cs.toArray, rfl, hlo, h1, h3, hm, by simpa using h2, by simpa using h4⟩⟩
theorem Arr.of_own {w : World} {lo : Nat} {v : Value} {L : List Ent} (h : w.ownsRow lo 64 6 v L.length (L.flatMap Ent.cells)) : (v = .slice none 0 0 ∧ L = []) ∨ ∃ g cap, v = .slice (some ⟨g, 0, none⟩) L.length cap ∧ lo ≤ g ∧ cap ≤ maxLen ∧ Arr w g cap L := by
  obtain ⟨h1, h2⟩ := h
  rcases h2 with ⟨rfl, h0⟩ | ⟨g, cap, cur, rfl, hb, hg, hn, hm, hs, ht⟩
  · exact .inl ⟨rfl, List.eq_nil_of_length_eq_zero h0⟩
  · exact .inr ⟨g, cap, rfl, hb, hm, cur.toList, by unfold Row; simpa using hg, by simpa using hs, hn, ht⟩

/-- an entry is stored -/
theorem Arr.put {w W : World} {g cap : Nat} {L : List Ent} {i a : Nat} {e : Ent} (h : Arr w g cap L) (hi : i < L.length) (ha : a = i * 6) (hW : W = ((((((w.setCell ⟨g, a, none⟩ (.bool e.s)).setCell ⟨g, a + 1, none⟩ (.slice e.A e.n e.c)).setCell ⟨g, a + 2, none⟩ (.bool false)).setCell ⟨g, a + 3, none⟩ (.slice e.A' e.n' e.c')).setCell ⟨g, a + 4, none⟩ (.int .i64 e.id)).setCell ⟨g, a + 5, none⟩ (.int .i64 (e.at_ : Int)))) : Arr W g cap (L.set i e) := by
  obtain ⟨cs, h1, h2, h3, h4⟩ := h
  subst ha hW
  refine ⟨_, (((((h1.set_ _ _).set_ _ _).set_ _ _).set_ _ _).set_ _ _).set_ _ _, by simp [h2], by simpa using h3, ?_⟩
  apply List.ext_getElem?
  intro r
  by_cases hr : r < L.length * 6
  · rw [List.length_set, List.getElem?_take, if_pos hr, flat6_set L i e hi r hr]
    have h5 : cs[r]? = (L.flatMap Ent.cells)[r]? := by rw [← h4, List.getElem?_take, if_pos hr]
    have hcl : L.length * 6 ≤ cs.length := by omega
    by_cases hq : r / 6 = i
    · rw [if_pos hq]
      obtain ⟨j, hj, rfl⟩ : ∃ j, j < 6 ∧ r = i * 6 + j := ⟨r - i * 6, by omega, by omega⟩
      rw [show (i * 6 + j) % 6 = j by omega]
      match j, hj with
      | 0, _ => simp [List.getElem?_set, Ent.cells]; omega
      | 1, _ => simp [List.getElem?_set, Ent.cells]; omega
      | 2, _ => simp [List.getElem?_set, Ent.cells]; omega
      | 3, _ => simp [List.getElem?_set, Ent.cells]; omega
      | 4, _ => simp [List.getElem?_set, Ent.cells]; omega
      | 5, _ => simp [List.getElem?_set, Ent.cells]; omega
    · rw [if_neg hq, ← h5, List.getElem?_set_ne (by omega), List.getElem?_set_ne (by omega), List.getElem?_set_ne (by omega), List.getElem?_set_ne (by omega), List.getElem?_set_ne (by omega), List.getElem?_set_ne (by omega)]
  · rw [List.length_set, List.getElem?_take, if_neg hr, List.getElem?_eq_none (by rw [flat6_len, List.length_set]; omega)]

set_option maxHeartbeats 4000000 in
theorem hless_calls (w : World) (g cap n i j : Nat) (L : List Ent) (e o : Ent) (h : Arr w g cap L) (hn : n = L.length) (hi : L[i]? = some e) (hj : L[j]? = some o) (he : e.ok w) (ho : o.ok w) (hes : Sized e.key 100) (hos : Sized o.key 100) (u : Bool) (hu : u = true ↔ e.first o) (hcap : n ≤ 1000000000) :
    Calls Try.prog 115 #[.slice (some ⟨g, 0, none⟩) n cap, .int .i64 (i : Int), .int .i64 (j : Int)] w (RetV w (.bool u)) := by
  have hil := (List.getElem?_eq_some_iff.1 hi).1
  have hjl := (List.getElem?_eq_some_iff.1 hj).1
  have hi0 : (0 : Int) ≤ (i : Int) := by omega
  have hi1 : (i : Int) < (n : Int) := by omega
  have hj0 : (0 : Int) ≤ (j : Int) := by omega
  have hj1 : (j : Int) < (n : Int) := by omega
  have HD8 : Hid (Later w w.drew) := hide (Later.refl w).drew
  have HT1 : Hid (∀ w', Later w.drew w' → w'.cell? ⟨g, i * 6, none⟩ = some (.bool e.s) ∧ w'.cell? ⟨g, i * 6 + 1, none⟩ = some (.slice e.A e.n e.c) ∧ w'.cell? ⟨g, i * 6 + 2, none⟩ = some (.bool false) ∧ w'.cell? ⟨g, i * 6 + 3, none⟩ = some (.slice e.A' e.n' e.c') ∧ w'.cell? ⟨g, i * 6 + 4, none⟩ = some (.int .i64 e.id) ∧ w'.cell? ⟨g, i * 6 + 5, none⟩ = some (.int .i64 (e.at_ : Int)) ∧ w'.cell? ⟨g, j * 6, none⟩ = some (.bool o.s) ∧ w'.cell? ⟨g, j * 6 + 1, none⟩ = some (.slice o.A o.n o.c) ∧ w'.cell? ⟨g, j * 6 + 2, none⟩ = some (.bool false) ∧ w'.cell? ⟨g, j * 6 + 3, none⟩ = some (.slice o.A' o.n' o.c') ∧ w'.cell? ⟨g, j * 6 + 4, none⟩ = some (.int .i64 o.id) ∧ w'.cell? ⟨g, j * 6 + 5, none⟩ = some (.int .i64 (o.at_ : Int))) := hide fun w' hb => by
    have hb := HD8.out.trans hb
    exact ⟨(h.later hb).cell hi (r := 0) rfl, (h.later hb).cell hi (r := 1) rfl, (h.later hb).cell hi (r := 2) rfl, (h.later hb).cell hi (r := 3) rfl, (h.later hb).cell hi (r := 4) rfl, (h.later hb).cell hi (r := 5) rfl, (h.later hb).cell hj (r := 0) rfl, (h.later hb).cell hj (r := 1) rfl, (h.later hb).cell hj (r := 2) rfl, (h.later hb).cell hj (r := 3) rfl, (h.later hb).cell hj (r := 4) rfl, (h.later hb).cell hj (r := 5) rfl⟩
  have HE := hide (he.later HD8.out); have HO := hide (ho.later HD8.out); have HES := hide hes; have HOS := hide hos; have HU := hide hu
  clear h hn hi hj he ho hes hos hu hil hjl
  go_enter Try.func115, Try.ntmps115
  go_upto_region 1 with fail
  go_region_held3 (fun w' => w'.cell? ⟨g, i * 6, none⟩ = some (.bool e.s) ∧ w'.cell? ⟨g, i * 6 + 1, none⟩ = some (.slice e.A e.n e.c) ∧ w'.cell? ⟨g, i * 6 + 2, none⟩ = some (.bool false) ∧ w'.cell? ⟨g, i * 6 + 3, none⟩ = some (.slice e.A' e.n' e.c') ∧ w'.cell? ⟨g, i * 6 + 4, none⟩ = some (.int .i64 e.id) ∧ w'.cell? ⟨g, i * 6 + 5, none⟩ = some (.int .i64 (e.at_ : Int)) ∧ w'.cell? ⟨g, j * 6, none⟩ = some (.bool o.s) ∧ w'.cell? ⟨g, j * 6 + 1, none⟩ = some (.slice o.A o.n o.c) ∧ w'.cell? ⟨g, j * 6 + 2, none⟩ = some (.bool false) ∧ w'.cell? ⟨g, j * 6 + 3, none⟩ = some (.slice o.A' o.n' o.c') ∧ w'.cell? ⟨g, j * 6 + 4, none⟩ = some (.int .i64 o.id) ∧ w'.cell? ⟨g, j * 6 + 5, none⟩ = some (.int .i64 (o.at_ : Int)))
    (first | exact HT1.out _ (Later.refl _) | exact HT1.out _ b1)
    (first
      | ((with_reducible refine (first_calls _ e o HE.out HO.out HES.out HOS.out u HU.out).mono ?_); rintro e' w1 ⟨rfl, b1⟩))
  all_goals
    have hL := HD8.out.trans b1
    go_wp2_with fail
    go_ret
    exact ⟨rfl, hL⟩
end Go.Proofs.Ytbhohnhkephefaa


/- Queues: two entries are changed about. -/
set_option linter.unusedVariables false
set_option linter.unusedSimpArgs false
set_option maxRecDepth 100000
namespace Go.Proofs.Ytbhohnhkephefaa
open Go.RowKit Go.Shelf
attribute [local go_sem ↓] Go.wp_at_zero Go.wp_at_succ

theorem Arr.room {w : World} {g cap i a : Nat} {L : List Ent} {e : Ent} (h : Arr w g cap L) (hi : L[i]? = some e) (o : Ent) (ha : a = i * 6) :
    (w.cell? ⟨g, a, none⟩ = some (.bool e.s)) ∧ (w.frozen? ⟨g, a, none⟩ = false) ∧ ((w.setCell ⟨g, a, none⟩ (.bool o.s)).cell? ⟨g, a + 1, none⟩ = some (.slice e.A e.n e.c)) ∧ ((w.setCell ⟨g, a, none⟩ (.bool o.s)).frozen? ⟨g, a + 1, none⟩ = false) ∧ (((w.setCell ⟨g, a, none⟩ (.bool o.s)).setCell ⟨g, a + 1, none⟩ (.slice o.A o.n o.c)).cell? ⟨g, a + 2, none⟩ = some (.bool false)) ∧ (((w.setCell ⟨g, a, none⟩ (.bool o.s)).setCell ⟨g, a + 1, none⟩ (.slice o.A o.n o.c)).frozen? ⟨g, a + 2, none⟩ = false) ∧ ((((w.setCell ⟨g, a, none⟩ (.bool o.s)).setCell ⟨g, a + 1, none⟩ (.slice o.A o.n o.c)).setCell ⟨g, a + 2, none⟩ (.bool false)).cell? ⟨g, a + 3, none⟩ = some (.slice e.A' e.n' e.c')) ∧ ((((w.setCell ⟨g, a, none⟩ (.bool o.s)).setCell ⟨g, a + 1, none⟩ (.slice o.A o.n o.c)).setCell ⟨g, a + 2, none⟩ (.bool false)).frozen? ⟨g, a + 3, none⟩ = false) ∧ (((((w.setCell ⟨g, a, none⟩ (.bool o.s)).setCell ⟨g, a + 1, none⟩ (.slice o.A o.n o.c)).setCell ⟨g, a + 2, none⟩ (.bool false)).setCell ⟨g, a + 3, none⟩ (.slice o.A' o.n' o.c')).cell? ⟨g, a + 4, none⟩ = some (.int .i64 e.id)) ∧ (((((w.setCell ⟨g, a, none⟩ (.bool o.s)).setCell ⟨g, a + 1, none⟩ (.slice o.A o.n o.c)).setCell ⟨g, a + 2, none⟩ (.bool false)).setCell ⟨g, a + 3, none⟩ (.slice o.A' o.n' o.c')).frozen? ⟨g, a + 4, none⟩ = false) ∧ ((((((w.setCell ⟨g, a, none⟩ (.bool o.s)).setCell ⟨g, a + 1, none⟩ (.slice o.A o.n o.c)).setCell ⟨g, a + 2, none⟩ (.bool false)).setCell ⟨g, a + 3, none⟩ (.slice o.A' o.n' o.c')).setCell ⟨g, a + 4, none⟩ (.int .i64 o.id)).cell? ⟨g, a + 5, none⟩ = some (.int .i64 (e.at_ : Int))) ∧ ((((((w.setCell ⟨g, a, none⟩ (.bool o.s)).setCell ⟨g, a + 1, none⟩ (.slice o.A o.n o.c)).setCell ⟨g, a + 2, none⟩ (.bool false)).setCell ⟨g, a + 3, none⟩ (.slice o.A' o.n' o.c')).setCell ⟨g, a + 4, none⟩ (.int .i64 o.id)).frozen? ⟨g, a + 5, none⟩ = false) := by
  obtain ⟨cs, h1, h2, h3, h4⟩ := h
  have hil := (List.getElem?_eq_some_iff.1 hi).1
  have hc : ∀ r u, e.cells[r]? = some u → cs[a + r]? = some u := fun r u hr => by
    have hrl : r < 6 := by have := (List.getElem?_eq_some_iff.1 hr).1; simpa [Ent.cells] using this
    have h5 := flat6_get L i r hrl e hi
    rw [← h4, List.getElem?_take, if_pos (by omega), hr] at h5
    rw [ha]; exact h5
  exact ⟨h1.cell (by  exact hc 0 _ rfl), h1.frozen _, (h1.set_ _ _).cell (by rw [List.getElem?_set_ne (by omega)]; exact hc 1 _ rfl), (h1.set_ _ _).frozen _, ((h1.set_ _ _).set_ _ _).cell (by rw [List.getElem?_set_ne (by omega), List.getElem?_set_ne (by omega)]; exact hc 2 _ rfl), ((h1.set_ _ _).set_ _ _).frozen _, (((h1.set_ _ _).set_ _ _).set_ _ _).cell (by rw [List.getElem?_set_ne (by omega), List.getElem?_set_ne (by omega), List.getElem?_set_ne (by omega)]; exact hc 3 _ rfl), (((h1.set_ _ _).set_ _ _).set_ _ _).frozen _, ((((h1.set_ _ _).set_ _ _).set_ _ _).set_ _ _).cell (by rw [List.getElem?_set_ne (by omega), List.getElem?_set_ne (by omega), List.getElem?_set_ne (by omega), List.getElem?_set_ne (by omega)]; exact hc 4 _ rfl), ((((h1.set_ _ _).set_ _ _).set_ _ _).set_ _ _).frozen _, (((((h1.set_ _ _).set_ _ _).set_ _ _).set_ _ _).set_ _ _).cell (by rw [List.getElem?_set_ne (by omega), List.getElem?_set_ne (by omega), List.getElem?_set_ne (by omega), List.getElem?_set_ne (by omega), List.getElem?_set_ne (by omega)]; exact hc 5 _ rfl), (((((h1.set_ _ _).set_ _ _).set_ _ _).set_ _ _).set_ _ _).frozen _⟩
theorem Arr.only {w : World} {g a : Nat} {e : Ent} : Only g w ((((((w.setCell ⟨g, a, none⟩ (.bool e.s)).setCell ⟨g, a + 1, none⟩ (.slice e.A e.n e.c)).setCell ⟨g, a + 2, none⟩ (.bool false)).setCell ⟨g, a + 3, none⟩ (.slice e.A' e.n' e.c')).setCell ⟨g, a + 4, none⟩ (.int .i64 e.id)).setCell ⟨g, a + 5, none⟩ (.int .i64 (e.at_ : Int))) :=
  (((((Only.one g w _ _).set _ _).set _ _).set _ _).set _ _).set _ _
/-- two entries changed about -/
def swapE (L : List Ent) (i j : Nat) : List Ent := match L[i]?, L[j]? with | some a, some b => (L.set i b).set j a | _, _ => L
theorem swapE_eq {L : List Ent} {i j : Nat} {a b : Ent} (hi : L[i]? = some a) (hj : L[j]? = some b) : swapE L i j = (L.set i b).set j a := by unfold swapE; rw [hi, hj]

set_option maxHeartbeats 8000000 in
theorem hswap_calls (w : World) (g cap n i j : Nat) (L : List Ent) (e o : Ent) (h : Arr w g cap L) (hn : n = L.length) (hi : L[i]? = some e) (hj : L[j]? = some o) (hcap : n ≤ 1000000000) :
    Calls Try.prog 116 #[.slice (some ⟨g, 0, none⟩) n cap, .int .i64 (i : Int), .int .i64 (j : Int)] w (fun e' w' => e' = .returned (.tuple #[]) ∧ Arr w' g cap (swapE L i j) ∧ Only g w w') := by
  have hil := (List.getElem?_eq_some_iff.1 hi).1
  have hjl := (List.getElem?_eq_some_iff.1 hj).1
  have hi0 : (0 : Int) ≤ (i : Int) := by omega
  have hi1 : (i : Int) < (n : Int) := by omega
  have hj0 : (0 : Int) ≤ (j : Int) := by omega
  have hj1 : (j : Int) < (n : Int) := by omega
  obtain ⟨wd, hwd⟩ : ∃ wd, wd = w.drew := ⟨_, rfl⟩
  have HWD := hide hwd
  have HA : Hid (Arr wd g cap L) := hide (by rw [hwd]; exact h.later (Later.refl w).drew)
  have HI := hide hi; have HJ := hide hj
  obtain ⟨w1, hw1⟩ : ∃ w1, w1 = ((((((wd.setCell ⟨g, i * 6, none⟩ (.bool o.s)).setCell ⟨g, i * 6 + 1, none⟩ (.slice o.A o.n o.c)).setCell ⟨g, i * 6 + 2, none⟩ (.bool false)).setCell ⟨g, i * 6 + 3, none⟩ (.slice o.A' o.n' o.c')).setCell ⟨g, i * 6 + 4, none⟩ (.int .i64 o.id)).setCell ⟨g, i * 6 + 5, none⟩ (.int .i64 (o.at_ : Int))) := ⟨_, rfl⟩
  have HW1 := hide hw1
  have HA1 : Hid (Arr w1 g cap (L.set i o)) := hide (HA.out.put hil rfl hw1)
  clear hw1
  obtain ⟨w2, hw2⟩ : ∃ w2, w2 = ((((((w1.setCell ⟨g, j * 6, none⟩ (.bool e.s)).setCell ⟨g, j * 6 + 1, none⟩ (.slice e.A e.n e.c)).setCell ⟨g, j * 6 + 2, none⟩ (.bool false)).setCell ⟨g, j * 6 + 3, none⟩ (.slice e.A' e.n' e.c')).setCell ⟨g, j * 6 + 4, none⟩ (.int .i64 e.id)).setCell ⟨g, j * 6 + 5, none⟩ (.int .i64 (e.at_ : Int))) := ⟨_, rfl⟩
  have HW2 := hide hw2
  clear hw2
  have HJ1 : Hid (∃ y, (L.set i o)[j]? = some y) := hide ⟨_, List.getElem?_eq_getElem (by simpa using hjl)⟩
  have hmx : Try.prog.follows .mixedOrders = true := by kernel_rfl
  clear h hn hi hj hil hjl hwd
  have d0 : wd.cell? ⟨g, i * 6, none⟩ = some (.bool e.s) := HA.out.cell HI.out (r := 0) rfl
  have d1 : wd.cell? ⟨g, i * 6 + 1, none⟩ = some (.slice e.A e.n e.c) := HA.out.cell HI.out (r := 1) rfl
  have d2 : wd.cell? ⟨g, i * 6 + 2, none⟩ = some (.bool false) := HA.out.cell HI.out (r := 2) rfl
  have d3 : wd.cell? ⟨g, i * 6 + 3, none⟩ = some (.slice e.A' e.n' e.c') := HA.out.cell HI.out (r := 3) rfl
  have d4 : wd.cell? ⟨g, i * 6 + 4, none⟩ = some (.int .i64 e.id) := HA.out.cell HI.out (r := 4) rfl
  have d5 : wd.cell? ⟨g, i * 6 + 5, none⟩ = some (.int .i64 (e.at_ : Int)) := HA.out.cell HI.out (r := 5) rfl
  have f0 : wd.cell? ⟨g, j * 6, none⟩ = some (.bool o.s) := HA.out.cell HJ.out (r := 0) rfl
  have f1 : wd.cell? ⟨g, j * 6 + 1, none⟩ = some (.slice o.A o.n o.c) := HA.out.cell HJ.out (r := 1) rfl
  have f2 : wd.cell? ⟨g, j * 6 + 2, none⟩ = some (.bool false) := HA.out.cell HJ.out (r := 2) rfl
  have f3 : wd.cell? ⟨g, j * 6 + 3, none⟩ = some (.slice o.A' o.n' o.c') := HA.out.cell HJ.out (r := 3) rfl
  have f4 : wd.cell? ⟨g, j * 6 + 4, none⟩ = some (.int .i64 o.id) := HA.out.cell HJ.out (r := 4) rfl
  have f5 : wd.cell? ⟨g, j * 6 + 5, none⟩ = some (.int .i64 (o.at_ : Int)) := HA.out.cell HJ.out (r := 5) rfl
  go_enter Try.func116, Try.ntmps116
  refine wp_region_N (fun _ => True) [] hmx trivial (fun hHeld => ?_)
  rw [← HWD.out]
  refine wpAnyN_take (i := 0) (oi := _) (v := ?_) rfl (by kernel_rfl) (by kernel_rfl) (by kernel_rfl) (by kernel_rfl) (fun _ _ _ h => h) (Or.inl ⟨by rfl, ?_⟩) (by assumption) ?_
  rotate_left
  · intro w hSw; (try dsimp only at hSw); go_simp
    first | done | with_reducible rfl
  try simp only [Act.put, List.setIfInBounds_toArray, List.set_cons_zero, List.set_cons_succ]
  refine wpAnyN_take (i := 1) (oi := _) (v := ?_) rfl (by kernel_rfl) (by kernel_rfl) (by kernel_rfl) (by kernel_rfl) (fun _ _ _ h => h) (Or.inl ⟨by rfl, ?_⟩) (by assumption) ?_
  rotate_left
  · intro w hSw; (try dsimp only at hSw); go_simp
    first | done | with_reducible rfl
  try simp only [Act.put, List.setIfInBounds_toArray, List.set_cons_zero, List.set_cons_succ]
  refine wpAnyN_take (i := 2) (oi := _) (v := ?_) rfl (by kernel_rfl) (by kernel_rfl) (by kernel_rfl) (by kernel_rfl) (fun _ _ _ h => h) (Or.inl ⟨by rfl, ?_⟩) (by assumption) ?_
  rotate_left
  · intro w hSw; (try dsimp only at hSw); go_simp
    first | done | with_reducible rfl
  try simp only [Act.put, List.setIfInBounds_toArray, List.set_cons_zero, List.set_cons_succ]
  refine wpAnyN_take (i := 3) (oi := _) (v := ?_) rfl (by kernel_rfl) (by kernel_rfl) (by kernel_rfl) (by kernel_rfl) (fun _ _ _ h => h) (Or.inl ⟨by rfl, ?_⟩) (by assumption) ?_
  rotate_left
  · intro w hSw; (try dsimp only at hSw); go_simp
    first | done | with_reducible rfl
  try simp only [Act.put, List.setIfInBounds_toArray, List.set_cons_zero, List.set_cons_succ]
  refine wpAnyN_take (i := 4) (oi := _) (v := ?_) rfl (by kernel_rfl) (by kernel_rfl) (by kernel_rfl) (by kernel_rfl) (fun _ _ _ h => h) (Or.inl ⟨by rfl, ?_⟩) (by assumption) ?_
  rotate_left
  · intro w hSw; (try dsimp only at hSw); go_simp
    first | done | with_reducible rfl
  try simp only [Act.put, List.setIfInBounds_toArray, List.set_cons_zero, List.set_cons_succ]
  refine wpAnyN_take (i := 5) (oi := _) (v := ?_) rfl (by kernel_rfl) (by kernel_rfl) (by kernel_rfl) (by kernel_rfl) (fun _ _ _ h => h) (Or.inl ⟨by rfl, ?_⟩) (by assumption) ?_
  rotate_left
  · intro w hSw; (try dsimp only at hSw); go_simp
    first | done | with_reducible rfl
  try simp only [Act.put, List.setIfInBounds_toArray, List.set_cons_zero, List.set_cons_succ]
  refine wpAnyN_take (i := 6) (oi := _) (v := ?_) rfl (by kernel_rfl) (by kernel_rfl) (by kernel_rfl) (by kernel_rfl) (fun _ _ _ h => h) (Or.inl ⟨by rfl, ?_⟩) (by assumption) ?_
  rotate_left
  · intro w hSw; (try dsimp only at hSw); go_simp
    first | done | with_reducible rfl
  try simp only [Act.put, List.setIfInBounds_toArray, List.set_cons_zero, List.set_cons_succ]
  refine wpAnyN_take (i := 8) (oi := _) (v := ?_) rfl (by kernel_rfl) (by kernel_rfl) (by kernel_rfl) (by kernel_rfl) (fun _ _ _ h => h) (Or.inl ⟨by rfl, ?_⟩) (by assumption) ?_
  rotate_left
  · intro w hSw; (try dsimp only at hSw); go_simp
    first | done | with_reducible rfl
  try simp only [Act.put, List.setIfInBounds_toArray, List.set_cons_zero, List.set_cons_succ]
  refine wpAnyN_take (i := 9) (oi := _) (v := ?_) rfl (by kernel_rfl) (by kernel_rfl) (by kernel_rfl) (by kernel_rfl) (fun _ _ _ h => h) (Or.inl ⟨by rfl, ?_⟩) (by assumption) ?_
  rotate_left
  · intro w hSw; (try dsimp only at hSw); go_simp
    first | done | with_reducible rfl
  try simp only [Act.put, List.setIfInBounds_toArray, List.set_cons_zero, List.set_cons_succ]
  refine wpAnyN_take (i := 10) (oi := _) (v := ?_) rfl (by kernel_rfl) (by kernel_rfl) (by kernel_rfl) (by kernel_rfl) (fun _ _ _ h => h) (Or.inl ⟨by rfl, ?_⟩) (by assumption) ?_
  rotate_left
  · intro w hSw; (try dsimp only at hSw); go_simp
    first | done | with_reducible rfl
  try simp only [Act.put, List.setIfInBounds_toArray, List.set_cons_zero, List.set_cons_succ]
  refine wpAnyN_ready (rs := [7, 11]) (by kernel_rfl) (by simp) ?_
  refine AllReadyN.held rfl (by rfl) (fun K hK => ?_) ?_
  · go_simp
    refine hK.out _ _ ?_ (fun hHeld => ?_)
    · trivial
    clear hK K
    try simp only [Act.put, List.setIfInBounds_toArray, List.set_cons_zero, List.set_cons_succ]
    refine wpAnyN_ready (rs := [11]) (by kernel_rfl) (by simp) ?_
    refine AllReadyN.held rfl (by rfl) (fun K hK => ?_) AllReadyN.nil
    go_simp
    refine hK.out _ _ ?_ (fun hHeld => ?_)
    · trivial
    clear hK K
    try simp only [Act.put, List.setIfInBounds_toArray, List.set_cons_zero, List.set_cons_succ]
    refine wpAnyN_take (i := 12) (oi := _) (v := ?_) rfl (by kernel_rfl) (by kernel_rfl) (by kernel_rfl) (by kernel_rfl) (fun _ _ _ h => h) (Or.inl ⟨by rfl, ?_⟩) (by assumption) ?_
    rotate_left
    · intro w hSw; (try dsimp only at hSw); go_simp
      first | done | with_reducible rfl
    try simp only [Act.put, List.setIfInBounds_toArray, List.set_cons_zero, List.set_cons_succ]
    refine wpAnyN_ready (rs := [13]) (by kernel_rfl) (by simp) ?_
    refine AllReadyN.held rfl (by rfl) (fun K hK => ?_) AllReadyN.nil
    obtain ⟨z0, y0, z1, y1, z2, y2, z3, y3, z4, y4, z5, y5⟩ := HA.out.room HI.out o (a := i * 6) rfl
    go_simp
    clear z0 y0 z1 y1 z2 y2 z3 y3 z4 y4 z5 y5 d0 f0 d1 f1 d2 f2 d3 f3 d4 f4 d5 f5
    refine hK.out _ _ ?_ (fun hHeld => ?_)
    · trivial
    clear hK K
    try simp only [Act.put, List.setIfInBounds_toArray, List.set_cons_zero, List.set_cons_succ]
    refine wpAnyN_take (i := 14) (oi := _) (v := ?_) rfl (by kernel_rfl) (by kernel_rfl) (by kernel_rfl) (by kernel_rfl) (fun _ _ _ h => h) (Or.inl ⟨by rfl, ?_⟩) (by assumption) ?_
    rotate_left
    · intro w hSw; (try dsimp only at hSw); go_simp
      first | done | with_reducible rfl
    try simp only [Act.put, List.setIfInBounds_toArray, List.set_cons_zero, List.set_cons_succ]
    refine wpAnyN_ready (rs := [15]) (by kernel_rfl) (by simp) ?_
    refine AllReadyN.held rfl (by rfl) (fun K hK => ?_) AllReadyN.nil
    rw [← HW1.out]
    obtain ⟨o2, HJ2⟩ := HJ1.out
    have hz := Arr.room (i := j) (a := j * 6) HA1.out HJ2 e rfl
    have z0 := hz.1
    have y0 := hz.2.1
    have z1 := hz.2.2.1
    have y1 := hz.2.2.2.1
    have z2 := hz.2.2.2.2.1
    have y2 := hz.2.2.2.2.2.1
    have z3 := hz.2.2.2.2.2.2.1
    have y3 := hz.2.2.2.2.2.2.2.1
    have z4 := hz.2.2.2.2.2.2.2.2.1
    have y4 := hz.2.2.2.2.2.2.2.2.2.1
    have z5 := hz.2.2.2.2.2.2.2.2.2.2.1
    have y5 := hz.2.2.2.2.2.2.2.2.2.2.2
    clear hz
    go_simp
    clear z0 y0 z1 y1 z2 y2 z3 y3 z4 y4 z5 y5
    refine hK.out _ _ ?_ (fun hHeld => ?_)
    · trivial
    clear hK K
    try simp only [Act.put, List.setIfInBounds_toArray, List.set_cons_zero, List.set_cons_succ]
    refine wpAnyN_done (by kernel_rfl) ?_ _
    rw [← HW2.out]
    have hw2 := HW2.out
    have hA2 : Arr w2 g cap (swapE L i j) := by
      rw [swapE_eq HI.out HJ.out]
      exact HA1.out.put (by rw [List.length_set]; exact (List.getElem?_eq_some_iff.1 HJ.out).1) rfl hw2
    have hO1 : Only g wd w2 := by
      rw [hw2]
      refine Only.trans ?_ Arr.only
      rw [HW1.out]; exact Arr.only
    have hO2 : Only g w w2 := by
      rw [HWD.out] at hO1; exact ⟨hO1.os, hO1.tape, hO1.output, hO1.size, hO1.block⟩
    go_wp2_with fail
    go_end0
    exact ⟨rfl, hA2, hO2⟩
  refine AllReadyN.held rfl (by rfl) (fun K hK => ?_) AllReadyN.nil
  go_simp
  refine hK.out _ _ ?_ (fun hHeld => ?_)
  · trivial
  clear hK K
  try simp only [Act.put, List.setIfInBounds_toArray, List.set_cons_zero, List.set_cons_succ]
  refine wpAnyN_ready (rs := [7]) (by kernel_rfl) (by simp) ?_
  refine AllReadyN.held rfl (by rfl) (fun K hK => ?_) AllReadyN.nil
  go_simp
  refine hK.out _ _ ?_ (fun hHeld => ?_)
  · trivial
  clear hK K
  try simp only [Act.put, List.setIfInBounds_toArray, List.set_cons_zero, List.set_cons_succ]
  refine wpAnyN_take (i := 12) (oi := _) (v := ?_) rfl (by kernel_rfl) (by kernel_rfl) (by kernel_rfl) (by kernel_rfl) (fun _ _ _ h => h) (Or.inl ⟨by rfl, ?_⟩) (by assumption) ?_
  rotate_left
  · intro w hSw; (try dsimp only at hSw); go_simp
    first | done | with_reducible rfl
  try simp only [Act.put, List.setIfInBounds_toArray, List.set_cons_zero, List.set_cons_succ]
  refine wpAnyN_ready (rs := [13]) (by kernel_rfl) (by simp) ?_
  refine AllReadyN.held rfl (by rfl) (fun K hK => ?_) AllReadyN.nil
  obtain ⟨z0, y0, z1, y1, z2, y2, z3, y3, z4, y4, z5, y5⟩ := HA.out.room HI.out o (a := i * 6) rfl
  go_simp
  clear z0 y0 z1 y1 z2 y2 z3 y3 z4 y4 z5 y5 d0 f0 d1 f1 d2 f2 d3 f3 d4 f4 d5 f5
  refine hK.out _ _ ?_ (fun hHeld => ?_)
  · trivial
  clear hK K
  try simp only [Act.put, List.setIfInBounds_toArray, List.set_cons_zero, List.set_cons_succ]
  refine wpAnyN_take (i := 14) (oi := _) (v := ?_) rfl (by kernel_rfl) (by kernel_rfl) (by kernel_rfl) (by kernel_rfl) (fun _ _ _ h => h) (Or.inl ⟨by rfl, ?_⟩) (by assumption) ?_
  rotate_left
  · intro w hSw; (try dsimp only at hSw); go_simp
    first | done | with_reducible rfl
  try simp only [Act.put, List.setIfInBounds_toArray, List.set_cons_zero, List.set_cons_succ]
  refine wpAnyN_ready (rs := [15]) (by kernel_rfl) (by simp) ?_
  refine AllReadyN.held rfl (by rfl) (fun K hK => ?_) AllReadyN.nil
  rw [← HW1.out]
  obtain ⟨o2, HJ2⟩ := HJ1.out
  have hz := Arr.room (i := j) (a := j * 6) HA1.out HJ2 e rfl
  have z0 := hz.1
  have y0 := hz.2.1
  have z1 := hz.2.2.1
  have y1 := hz.2.2.2.1
  have z2 := hz.2.2.2.2.1
  have y2 := hz.2.2.2.2.2.1
  have z3 := hz.2.2.2.2.2.2.1
  have y3 := hz.2.2.2.2.2.2.2.1
  have z4 := hz.2.2.2.2.2.2.2.2.1
  have y4 := hz.2.2.2.2.2.2.2.2.2.1
  have z5 := hz.2.2.2.2.2.2.2.2.2.2.1
  have y5 := hz.2.2.2.2.2.2.2.2.2.2.2
  clear hz
  go_simp
  clear z0 y0 z1 y1 z2 y2 z3 y3 z4 y4 z5 y5
  refine hK.out _ _ ?_ (fun hHeld => ?_)
  · trivial
  clear hK K
  try simp only [Act.put, List.setIfInBounds_toArray, List.set_cons_zero, List.set_cons_succ]
  refine wpAnyN_done (by kernel_rfl) ?_ _
  rw [← HW2.out]
  have hw2 := HW2.out
  have hA2 : Arr w2 g cap (swapE L i j) := by
    rw [swapE_eq HI.out HJ.out]
    exact HA1.out.put (by rw [List.length_set]; exact (List.getElem?_eq_some_iff.1 HJ.out).1) rfl hw2
  have hO1 : Only g wd w2 := by
    rw [hw2]
    refine Only.trans ?_ Arr.only
    rw [HW1.out]; exact Arr.only
  have hO2 : Only g w w2 := by
    rw [HWD.out] at hO1; exact ⟨hO1.os, hO1.tape, hO1.output, hO1.size, hO1.block⟩
  go_wp2_with fail
  go_end0
  exact ⟨rfl, hA2, hO2⟩

end Go.Proofs.Ytbhohnhkephefaa


/- Queues: entries as a heap; what may have turned in memory. -/
set_option linter.unusedVariables false
set_option linter.unusedSimpArgs false
namespace Go.Proofs.Ytbhohnhkephefaa
open Go.RowKit Go.Shelf

instance : Inhabited Ent := ⟨⟨false, none, 0, 0, none, 0, 0, 0, 0, 0⟩⟩
theorem ent_ord : Hp.Ord Ent.first := by
  refine ⟨fun a h => ?_, fun a b c h k => ?_, fun a b c h k q => ?_⟩
  · unfold Ent.first at h; grind
  · unfold Ent.first at *; grind
  · unfold Ent.first at *; grind
def fn (L : List Ent) : Nat → Ent := fun k => (L[k]?).getD default
theorem fn_at {L : List Ent} {k : Nat} (h : k < L.length) : L[k]? = some (fn L k) := by
  unfold fn; rw [List.getElem?_eq_getElem h]; rfl
theorem fn_of {L : List Ent} {k : Nat} {e : Ent} (h : L[k]? = some e) : fn L k = e := by unfold fn; rw [h]; rfl
theorem fn_mem {L : List Ent} {k : Nat} (h : k < L.length) : fn L k ∈ L := List.mem_of_getElem? (fn_at h)
theorem swapE_length (L : List Ent) (i j : Nat) : (swapE L i j).length = L.length := by
  unfold swapE; split <;> simp
theorem swapE_at (L : List Ent) (i j k : Nat) (hi : i < L.length) (hj : j < L.length) : (swapE L i j)[k]? = if k = j then L[i]? else if k = i then L[j]? else L[k]? := by
  have h1 := fn_at hi
  have h2 := fn_at hj
  rw [swapE_eq h1 h2]
  grind
theorem fn_swap (L : List Ent) (i j : Nat) (hi : i < L.length) (hj : j < L.length) : fn (swapE L i j) = Hp.sw (fn L) i j := by
  funext k
  have h := swapE_at L i j k hi hj
  unfold fn Hp.sw
  rw [h]
  grind
theorem swapE_perm (L : List Ent) (i j : Nat) (hi : i < L.length) (hj : j < L.length) : (swapE L i j).Perm L := by
  rw [swapE_eq (List.getElem?_eq_getElem hi) (List.getElem?_eq_getElem hj)]
  exact List.set_set_perm hi hj

/-- what may have turned: blocks for which S stands -/
structure Tch (S : Nat → Prop) (w w' : World) : Prop where
  os : w'.os = w.os
  tape : w'.tape = w.tape
  output : w'.output = w.output
  size : w.heap.size ≤ w'.heap.size
  block : ∀ b, b < w.heap.size → ¬ S b → w'.heap[b]? = w.heap[b]?
theorem Tch.refl (S : Nat → Prop) (w : World) : Tch S w w := ⟨rfl, rfl, rfl, Nat.le_refl _, fun _ _ _ => rfl⟩
theorem Tch.trans {S : Nat → Prop} {a b c : World} (h : Tch S a b) (k : Tch S b c) : Tch S a c :=
  ⟨k.os.trans h.os, k.tape.trans h.tape, k.output.trans h.output, Nat.le_trans h.size k.size, fun x hx hS => (k.block x (Nat.lt_of_lt_of_le hx h.size) hS).trans (h.block x hx hS)⟩
theorem Tch.mono {S S' : Nat → Prop} {a b : World} (h : Tch S a b) (hs : ∀ x, x < a.heap.size → S x → S' x) : Tch S' a b := ⟨h.os, h.tape, h.output, h.size, fun x hx hn => h.block x hx fun hS => hn (hs x hx hS)⟩
/-- a step of which more blocks may have turned, but these are new -/
theorem Tch.step {S S' : Nat → Prop} {a b c : World} (h : Tch S a b) (k : Tch S' b c) (hs : ∀ x, S' x → S x ∨ a.heap.size ≤ x) : Tch S a c :=
  ⟨k.os.trans h.os, k.tape.trans h.tape, k.output.trans h.output, Nat.le_trans h.size k.size, fun x hx hS => (k.block x (Nat.lt_of_lt_of_le hx h.size) (fun e => (hs x e).elim hS (fun e => by omega))).trans (h.block x hx hS)⟩
theorem Later.tch {S : Nat → Prop} {a b : World} (h : Later a b) : Tch S a b := ⟨h.os, h.tape, h.output, h.size, fun x hx _ => h.block x hx⟩
theorem Only.tch {g : Nat} {S : Nat → Prop} {a b : World} (h : Only g a b) (hg : S g) : Tch S a b := ⟨h.os, h.tape, h.output, by rw [h.size]; exact Nat.le_refl _, fun x _ hn => h.block x fun e => hn (e ▸ hg)⟩
theorem Tch.later {S : Nat → Prop} {a b c : World} (h : Later a b) (k : Tch S b c) (hS : ∀ x, x < a.heap.size → ¬ S x) : Later a c :=
  ⟨k.os.trans h.os, k.tape.trans h.tape, k.output.trans h.output, Nat.le_trans h.size k.size, fun x hx => (k.block x (Nat.lt_of_lt_of_le hx h.size) (hS x hx)).trans (h.block x hx)⟩
theorem Tch.drew {S : Nat → Prop} {a b : World} (h : Tch S a b) : Tch S a b.drew := ⟨h.os, h.tape, h.output, h.size, h.block⟩
theorem Tch.setCell {S : Nat → Prop} {a b : World} (h : Tch S a b) {g i : Nat} (hg : S g) (u : Value) : Tch S a (b.setCell ⟨g, i, none⟩ u) := h.trans ((Only.one g b i u).tch hg)
theorem Tch.alloc {S : Nat → Prop} {a b : World} (h : Tch S a b) (o : Obj) : Tch S a (b.alloc o) := h.trans (Later.tch ((Later.refl b).alloc o))
theorem On.tch {S P : Nat → Prop} {T : World → Prop} {a b : World} (h : On a P T) (k : Tch S a b) (hS : ∀ x, P x → ¬ S x) : On b P T := h.keep k.size fun x hp hx => k.block x hx (hS x hp)
theorem On.lt {P : Nat → Prop} {T : World → Prop} {a : World} (h : On a P T) : On a (fun b => P b ∧ b < a.heap.size) T := h.mono fun b hb hl => ⟨hb, hl⟩
theorem Row.tch {S : Nat → Prop} {a b : World} {g : Nat} {t : TypeId} {cs : List Value} (h : Row a g t cs) (k : Tch S a b) (hS : ¬ S g) : Row b g t cs := (k.block g h.lt hS).trans h
theorem Arr.tch {S : Nat → Prop} {a b : World} {g cap : Nat} {L : List Ent} (h : Arr a g cap L) (k : Tch S a b) (hS : ¬ S g) : Arr b g cap L := h.block (k.block g h.lt hS)

/-- all keys are what they say, and not too long -/
structure Keys (w : World) (P : Nat → Prop) (L : List Ent) : Prop where
  ok : On w P (fun W => ∀ e ∈ L, e.ok W)
  sized : ∀ e ∈ L, Sized e.key 100
theorem Keys.sub {w : World} {P : Nat → Prop} {L L' : List Ent} (h : Keys w P L) (hs : ∀ e ∈ L', e ∈ L) : Keys w P L' :=
  ⟨h.ok.map fun W k e he => k e (hs e he), fun e he => h.sized e (hs e he)⟩
theorem Keys.perm {w : World} {P : Nat → Prop} {L L' : List Ent} (h : Keys w P L) (hp : L'.Perm L) : Keys w P L' := h.sub fun e he => hp.mem_iff.1 he
theorem Keys.tch {S : Nat → Prop} {a b : World} {P : Nat → Prop} {L : List Ent} (h : Keys a P L) (k : Tch S a b) (hS : ∀ x, P x → ¬ S x) : Keys b P L := ⟨h.ok.tch k hS, h.sized⟩
theorem Keys.later {a b : World} {P : Nat → Prop} {L : List Ent} (h : Keys a P L) (k : Later a b) : Keys b P L := ⟨h.ok.later k, h.sized⟩
theorem Keys.mono {w : World} {P P' : Nat → Prop} {L : List Ent} (h : Keys w P L) (hp : ∀ b, P b → b < w.heap.size → P' b) : Keys w P' L := ⟨h.ok.mono hp, h.sized⟩
theorem Keys.nil (w : World) (P : Nat → Prop) : Keys w P [] :=
  ⟨On.pure (by intro W e he; cases he), by intro e he; cases he⟩
theorem Keys.at_ {w : World} {P : Nat → Prop} {L : List Ent} (h : Keys w P L) {k : Nat} (hk : k < L.length) : (fn L k).ok w ∧ Sized (fn L k).key 100 := ⟨h.ok.now _ (fn_mem hk), h.sized _ (fn_mem hk)⟩
end Go.Proofs.Ytbhohnhkephefaa


/- Queues: the heap's five methods, found by the interface. -/
set_option linter.unusedVariables false
set_option linter.unusedSimpArgs false
set_option maxRecDepth 100000
namespace Go.Proofs.Ytbhohnhkephefaa
open Go.RowKit Go.Shelf

theorem load_row {w : World} {g : Nat} {v : Value} (h : w.cell? ⟨g, 0, none⟩ = some v) : (loadVar 58 ⟨g, 0, none⟩).run Try.prog w = .ok v w := by
  simp [go_sem, h]
theorem wrap_some (ts : Array TypeId) (t : TypeId) (a : Addr) (s1 s2 : String) : Builtin.ssaWrapNilChk_ ts t #[.pointer (some a), strVal s1, strVal s2] = pure (.pointer (some a)) := rfl
/-- a method of a value, found through a pointer -/
theorem method_val {P : Program} {t pe : TypeId} {f : FuncId} {fuel g : Nat} {name : String} {w : World} {v : Value}
    (hm : (P.info? t).map (fun i => (i.methods.find? (·.name == name)).map fun m => (m.path.toList.length, m.func)) = some (some (0, some (f, false)))) (hu : P.underlying t = some (.pointer pe))
    (hl : (loadVar pe ⟨g, 0, none⟩).run P w = .ok v w) : (method (fuel + 1) t (.pointer (some ⟨g, 0, none⟩)) name).run P w = .ok (f, v) w := by
  cases hi : P.info? t with
  | none => rw [hi] at hm; simp at hm
  | some info =>
    rw [hi] at hm
    simp only [Option.map_some, Option.some.injEq] at hm
    cases hf : info.methods.find? (·.name == name) with
    | none => rw [hf] at hm; simp at hm
    | some m =>
      rw [hf] at hm
      simp only [Option.map_some, Option.some.injEq, Prod.mk.injEq] at hm
      obtain ⟨h1, h2⟩ := hm
      have h3 : m.path.toList = [] := List.eq_nil_of_length_eq_zero h1
      unfold method
      have ht : (typeInfo t).run P w = .ok info w := by simp [go_sem, typeInfo, hi]
      have hu' : (underlying t).run P w = .ok (.pointer pe) w := by simp [go_sem, underlying, hu]
      simp only [Sem.run_bind, ht, Result.andThen_ok, hf, h3, follow, Sem.run_pure, h2]
      unfold receiverAt
      simp only [Sem.run_bind, hu', Result.andThen_ok]
      have h4 : m.path.isEmpty = true := by
        have : m.path = #[] := Array.toList_eq_nil_iff.1 h3
        rw [this]; rfl
      rw [h4]
      simp [Place.get, asAddr, hl, Sem.run_bind, Sem.run_pure, Result.andThen_ok, wrap_some]
/-- a method of a pointer -/
theorem method_ptr {P : Program} {t pe : TypeId} {f : FuncId} {fuel g : Nat} {name : String} {w : World}
    (hm : (P.info? t).map (fun i => (i.methods.find? (·.name == name)).map fun m => (m.path.toList.length, m.func)) = some (some (0, some (f, true)))) (hu : P.underlying t = some (.pointer pe)) :
    (method (fuel + 1) t (.pointer (some ⟨g, 0, none⟩)) name).run P w = .ok (f, .pointer (some ⟨g, 0, none⟩)) w := by
  cases hi : P.info? t with
  | none => rw [hi] at hm; simp at hm
  | some info =>
    rw [hi] at hm
    simp only [Option.map_some, Option.some.injEq] at hm
    cases hf : info.methods.find? (·.name == name) with
    | none => rw [hf] at hm; simp at hm
    | some m =>
      rw [hf] at hm
      simp only [Option.map_some, Option.some.injEq, Prod.mk.injEq] at hm
      obtain ⟨h1, h2⟩ := hm
      have h3 : m.path.toList = [] := List.eq_nil_of_length_eq_zero h1
      unfold method
      have ht : (typeInfo t).run P w = .ok info w := by simp [go_sem, typeInfo, hi]
      have hu' : (underlying t).run P w = .ok (.pointer pe) w := by simp [go_sem, underlying, hu]
      simp only [Sem.run_bind, ht, Result.andThen_ok, hf, h3, follow, Sem.run_pure, h2]
      unfold receiverAt
      simp only [Sem.run_bind, hu', Result.andThen_ok]
      simp [Place.get, Sem.run_bind, Sem.run_pure, Result.andThen_ok]
theorem m_less {w : World} {g fuel : Nat} {v : Value} (h : w.cell? ⟨g, 0, none⟩ = some v) : (method (fuel + 1) 62 (.pointer (some ⟨g, 0, none⟩)) "Less").run Try.prog w = .ok (115, v) w :=
  method_val (by kernel_rfl) Try.underlying62 (load_row h)
theorem m_swap {w : World} {g fuel : Nat} {v : Value} (h : w.cell? ⟨g, 0, none⟩ = some v) : (method (fuel + 1) 62 (.pointer (some ⟨g, 0, none⟩)) "Swap").run Try.prog w = .ok (116, v) w :=
  method_val (by kernel_rfl) Try.underlying62 (load_row h)
theorem m_len {w : World} {g fuel : Nat} {v : Value} (h : w.cell? ⟨g, 0, none⟩ = some v) : (method (fuel + 1) 62 (.pointer (some ⟨g, 0, none⟩)) "Len").run Try.prog w = .ok (114, v) w :=
  method_val (by kernel_rfl) Try.underlying62 (load_row h)
theorem m_push {w : World} {g fuel : Nat} : (method (fuel + 1) 62 (.pointer (some ⟨g, 0, none⟩)) "Push").run Try.prog w = .ok (119, .pointer (some ⟨g, 0, none⟩)) w :=
  method_ptr (by kernel_rfl) Try.underlying62
theorem m_pop {w : World} {g fuel : Nat} : (method (fuel + 1) 62 (.pointer (some ⟨g, 0, none⟩)) "Pop").run Try.prog w = .ok (118, .pointer (some ⟨g, 0, none⟩)) w :=
  method_ptr (by kernel_rfl) Try.underlying62
end Go.Proofs.Ytbhohnhkephefaa


/- Queues: the heap's up. -/
set_option linter.unusedVariables false
set_option linter.unusedSimpArgs false
set_option maxRecDepth 100000
namespace Go.Proofs.Ytbhohnhkephefaa
open Go.RowKit Go.Shelf
attribute [local go_sem ↓] Go.wp_at_zero Go.wp_at_succ

def UpPost (w : World) (g cap n s : Nat) (L : List Ent) : World → Prop := fun w' => ∃ L', L'.Perm L ∧ Arr w' g cap L' ∧ Tch (fun b => b = g) w w' ∧ Hp.Hf Ent.first (fn L') n s ∧ ∀ k, n ≤ k → L'[k]? = L[k]?

set_option maxHeartbeats 8000000 in
theorem hup_calls (w : World) (gq g cap n j put : Nat) (P : Nat → Prop) (L : List Ent) (hq : Row w gq 60 [.slice (some ⟨g, 0, none⟩) n cap, .int .i64 (put : Int)]) (hgq : gq ≠ g) (h : Arr w g cap L) (hn : n = L.length) (hk : Keys w P L) (hP : ¬ P g) (hU : Hp.Up Ent.first (fn L) n j) (hcap : n ≤ 1000000000) :
    Calls Try.prog 42 #[.iface 62 (.pointer (some ⟨gq, 0, none⟩)), .int .i64 (j : Int)] w (fun e' w' => e' = .returned (.tuple #[]) ∧ UpPost w g cap n 0 L w') := by
  have HQ := hide hq; have HK := hide hk; have HN := hide hn; have HA := hide h; have HU0 := hide hU
  clear hq hk hn h hU
  go_enter Try.func42, Try.ntmps42
  go_wp2_with fail
  go_loopw [1] (fun jv wr => ∃ (j : Nat) (L' : List Ent), jv = .int .i64 (j : Int) ∧ Hid (Arr wr g cap L') ∧ Hid (L'.Perm L) ∧ Hid (Tch (fun b => b = g) w wr) ∧ Hid (Hp.Up Ent.first (fn L') n j)) (fun jv _ => (intOf jv).toNat)
  case atStart => exact ⟨j, L, rfl, HA, hide (.refl _), hide (Tch.refl _ _), HU0⟩
  case round =>
    obtain ⟨j, L', rfl, HA', HP', HT', HU'⟩ := hrel
    have hj := HU'.out.1
    have hq0 : wr.cell? ⟨gq, 0, none⟩ = some (.slice (some ⟨g, 0, none⟩) n cap) := (HQ.out.tch HT'.out (fun e => hgq e)).cell rfl
    have ml := fun k => m_less (fuel := k) hq0
    have ms := fun k => m_swap (fuel := k) hq0
    by_cases h0 : j = 0
    · subst h0
      go_wp2_with fail
      go_end0
      exact ⟨rfl, L', HP'.out, HA'.out, HT'.out, HU'.out.done (.inl rfl), fun k hk => by
        rw [List.getElem?_eq_none (by rw [HP'.out.length_eq, ← HN.out]; exact hk), List.getElem?_eq_none (by rw [← HN.out]; exact hk)]⟩
    · obtain ⟨p, hp⟩ : ∃ p : Nat, p = (j - 1) / 2 := ⟨_, rfl⟩
      have hj1 : 1 ≤ (j : Int) := by omega
      have t1 : ((j : Int) - 1) / 2 = (p : Int) := by omega
      have t2 : ((p : Int) == (j : Int)) = false := by simp; omega
      have hn' : n = L'.length := by rw [HP'.out.length_eq]; exact HN.out
      have hjl : j < L'.length := by omega
      have hpl : p < L'.length := by omega
      have HKr := hide ((HK.out.tch HT'.out (fun x hx e => hP (e ▸ hx))).perm HP'.out)
      obtain ⟨u, hu⟩ : ∃ u : Bool, u = true ↔ (fn L' j).first (fn L' p) := by
        by_cases hf : (fn L' j).first (fn L' p)
        · exact ⟨true, by simp [hf]⟩
        · exact ⟨false, by simp [hf]⟩
      have HP := hide hp; have HN' := hide hn'; have HU := hide hu
      have HF1 := hide (fn_at hjl); have HF2 := hide (fn_at hpl)
      have HK1 := hide (HKr.out.at_ hjl); have HK2 := hide (HKr.out.at_ hpl)
      clear hp hn' hu
      go_wp2_with fail
      ((with_reducible refine (hless_calls wr g cap n j p L' _ _ HA'.out HN'.out HF1.out HF2.out HK1.out.1 HK2.out.1 HK1.out.2 HK2.out.2 u HU.out hcap).mono ?_); rintro e w1 ⟨rfl, b1⟩)
      have HB1 := hide b1
      have hq1 : w1.cell? ⟨gq, 0, none⟩ = some (.slice (some ⟨g, 0, none⟩) n cap) := ((HQ.out.tch HT'.out (fun e => hgq e)).later b1).cell rfl
      have ms := fun k => m_swap (fuel := k) hq1
      have HA1 := hide (HA'.out.later b1)
      clear b1
      cases u with
      | false =>
        go_wp2_with fail
        go_end0
        exact ⟨rfl, L', HP'.out, HA1.out, HT'.out.trans HB1.out.tch, HU'.out.done (.inr (by rw [← HP.out]; exact fun e => by cases HU.out.2 e)), fun k hk => by
          rw [List.getElem?_eq_none (by rw [← HN'.out]; exact hk), List.getElem?_eq_none (by rw [← HN.out]; exact hk)]⟩
      | true =>
        go_wp2_with fail
        ((with_reducible refine (hswap_calls w1 g cap n p j L' _ _ HA1.out HN'.out HF2.out HF1.out hcap).mono ?_); rintro e w2 ⟨rfl, a2, o2⟩)
        have HA2 := hide a2; have HO2 := hide o2
        clear a2 o2 ml ms
        go_wp2_with fail
        go_roundw
        case rel => exact ⟨p, swapE L' p j, rfl, HA2, hide ((swapE_perm L' p j hpl hjl).trans HP'.out), hide (HT'.out.trans (HB1.out.tch.trans (HO2.out.tch rfl))), hide (by rw [fn_swap L' p j hpl hjl]; exact HU'.out.step ent_ord (by omega) HP.out (by have := HU.out; simpa using this))⟩
        case measure => simp [intOf]; have := HP.out; omega
end Go.Proofs.Ytbhohnhkephefaa


/- Queues: the heap's down. -/
set_option linter.unusedVariables false
set_option linter.unusedSimpArgs false
set_option maxRecDepth 100000
namespace Go.Proofs.Ytbhohnhkephefaa
open Go.RowKit Go.Shelf
attribute [local go_sem ↓] Go.wp_at_zero Go.wp_at_succ

def RetB (e' : Ending) : Prop := ∃ b : Bool, e' = .returned (.bool b)
set_option maxHeartbeats 8000000 in
theorem hdown_calls (w : World) (gq g cap n len i0 put : Nat) (P : Nat → Prop) (L : List Ent) (hq : Row w gq 60 [.slice (some ⟨g, 0, none⟩) len cap, .int .i64 (put : Int)]) (hgq : gq ≠ g) (h : Arr w g cap L) (hlen : len = L.length) (hk : Keys w P L) (hP : ¬ P g) (hn : n ≤ len) (hi0 : i0 < len) (hD : Hp.Hf Ent.first (fn L) n (i0 + 1)) (hcap : len ≤ 1000000000) :
    Calls Try.prog 46 #[.iface 62 (.pointer (some ⟨gq, 0, none⟩)), .int .i64 (i0 : Int), .int .i64 (n : Int)] w (fun e' w' => RetB e' ∧ UpPost w g cap n i0 L w') := by
  have HQ := hide hq; have HK := hide hk; have HN := hide hlen; have HA := hide h; have HD0 := hide hD
  clear hq hk hlen h hD
  go_enter Try.func46, Try.ntmps46
  go_wp2_with fail
  go_loopw [7] (fun iv wr => ∃ (i : Nat) (L' : List Ent), iv = .int .i64 (i : Int) ∧ Hid (Arr wr g cap L') ∧ Hid (L'.Perm L) ∧ Hid (Tch (fun b => b = g) w wr) ∧ Hid (Hp.Down Ent.first (fn L') n i0 i) ∧ Hid (∀ k, n ≤ k → L'[k]? = L[k]?) ∧ Hid (i < len)) (fun iv _ => n - (intOf iv).toNat)
  case atStart => exact ⟨i0, L, rfl, HA, hide (.refl _), hide (Tch.refl _ _), hide (Hp.Down.start HD0.out), hide (fun _ _ => rfl), hide hi0⟩
  case round =>
    obtain ⟨i, L', rfl, HA', HP', HT', HD', HX', HIL'⟩ := hrel
    have hilen := HIL'.out
    have hn' : len = L'.length := by rw [HP'.out.length_eq]; exact HN.out
    have HN' := hide hn'
    by_cases h1 : 2 * i + 1 < n
    · obtain ⟨j1, hj1⟩ : ∃ j1 : Nat, j1 = 2 * i + 1 := ⟨_, rfl⟩
      have e1 : 2 * (i : Int) + 1 = (j1 : Int) := by omega
      have l1 : j1 < L'.length := by omega
      have hil : i < L'.length := by omega
      have c1 : j1 < n := by omega
      have c0 : ¬ ((j1 : Int) < 0) := by omega
      obtain ⟨j2, hj2⟩ : ∃ j2 : Nat, j2 = 2 * i + 2 := ⟨_, rfl⟩
      have e2 : (j1 : Int) + 1 = (j2 : Int) := by omega
      have HJ1 := hide hj1; have HJ2 := hide hj2
      by_cases h2 : 2 * i + 2 < n
      · have c2 : j2 < n := by omega
        have l2 : j2 < L'.length := by omega
        have hq0 : wr.cell? ⟨gq, 0, none⟩ = some (.slice (some ⟨g, 0, none⟩) len cap) := (HQ.out.tch HT'.out (fun e => hgq e)).cell rfl
        have ml0 := fun k => m_less (fuel := k) hq0
        have HKr0 := hide ((HK.out.tch HT'.out (fun x hx e => hP (e ▸ hx))).perm HP'.out)
        obtain ⟨u, hu⟩ : ∃ u : Bool, u = true ↔ (fn L' j2).first (fn L' j1) := by
          by_cases hf : (fn L' j2).first (fn L' j1)
          · exact ⟨true, by simp [hf]⟩
          · exact ⟨false, by simp [hf]⟩
        have HU := hide hu
        have HE1 := hide (fn_at l1); have HE2 := hide (fn_at l2)
        have HG1 := hide (HKr0.out.at_ l1); have HG2 := hide (HKr0.out.at_ l2)
        clear hu hj1 hj2 hn'
        go_wp2_with fail
        ((with_reducible refine (hless_calls wr g cap len j2 j1 L' _ _ HA'.out HN'.out HE2.out HE1.out HG2.out.1 HG1.out.1 HG2.out.2 HG1.out.2 u HU.out hcap).mono ?_); rintro e w2 ⟨rfl, b2⟩)
        have HTW := hide (HT'.out.trans b2.tch)
        have HAW := hide (HA'.out.later b2)
        clear b2 ml0 hq0
        cases u with
        | false =>
          have hk : Hp.Kid Ent.first (fn L') n i j1 := by
            have hj1 := HJ1.out
            subst hj1
            refine Hp.Kid.left ent_ord h1 fun _ e => ?_
            have := HU.out; rw [HJ2.out] at this; simp at this; exact this e
          have HKK := hide hk
          clear hk
          have HKd : Hid (Hp.Kid Ent.first (fn L') n i j1) := hide (HKK.out)
          have hn2 := HN'.out
          have hjl : j1 < L'.length := by have := HKd.out.2.1; omega
          have hjn : j1 < n := HKd.out.2.1
          have hij : i < j1 := by have := HKd.out.1; omega
          have hqs : w2.cell? ⟨gq, 0, none⟩ = some (.slice (some ⟨g, 0, none⟩) len cap) := (HQ.out.tch HTW.out (fun e => hgq e)).cell rfl
          have ml := fun k => m_less (fuel := k) hqs
          clear hn2
          have HKr := hide ((HK.out.tch HTW.out (fun x hx e => hP (e ▸ hx))).perm HP'.out)
          obtain ⟨u2, hu2⟩ : ∃ u : Bool, u = true ↔ (fn L' j1).first (fn L' i) := by
            by_cases hf : (fn L' j1).first (fn L' i)
            · exact ⟨true, by simp [hf]⟩
            · exact ⟨false, by simp [hf]⟩
          have HU2 := hide hu2
          have HF1 := hide (fn_at hjl); have HF2 := hide (fn_at hil)
          have HK1 := hide (HKr.out.at_ hjl); have HK2 := hide (HKr.out.at_ hil)
          clear hu2
          go_wp2_with fail
          ((with_reducible refine (hless_calls w2 g cap len j1 i L' _ _ HAW.out HN'.out HF1.out HF2.out HK1.out.1 HK2.out.1 HK1.out.2 HK2.out.2 u2 HU2.out hcap).mono ?_); rintro e w3 ⟨rfl, b3⟩)
          have HB3 := hide b3
          have hqt : w3.cell? ⟨gq, 0, none⟩ = some (.slice (some ⟨g, 0, none⟩) len cap) := ((HQ.out.tch HTW.out (fun e => hgq e)).later b3).cell rfl
          clear ml
          have ms := fun k => m_swap (fuel := k) hqt
          have HA3 := hide (HAW.out.later b3)
          have HT3 := hide (HTW.out.trans b3.tch)
          clear b3 hqs
          cases u2 with
          | false =>
            go_wp2_with fail
            go_ret
            exact ⟨⟨_, rfl⟩, L', HP'.out, HA3.out, HT3.out, HD'.out.done ent_ord HKd.out (fun e => by have := HU2.out; simp at this; exact this e), HX'.out⟩
          | true =>
            go_wp2_with fail
            ((with_reducible refine (hswap_calls w3 g cap len i j1 L' _ _ HA3.out HN'.out HF2.out HF1.out hcap).mono ?_); rintro e w4 ⟨rfl, a4, o4⟩)
            have HA4 := hide a4; have HO4 := hide o4
            clear a4 o4 ms
            go_wp2_with fail
            go_roundw
            case rel => exact ⟨j1, swapE L' i j1, rfl, HA4, hide ((swapE_perm L' i j1 hil hjl).trans HP'.out), hide (HT3.out.trans (HO4.out.tch rfl)), hide (by rw [fn_swap L' i j1 hil hjl]; exact HD'.out.step ent_ord HKd.out (by have := HU2.out; simpa using this)), hide (fun k hk => by rw [swapE_at L' i j1 k hil hjl, if_neg (by omega), if_neg (by omega)]; exact HX'.out k hk), hide (by omega)⟩
            case measure => simp [intOf]; omega
        | true =>
          have hk : Hp.Kid Ent.first (fn L') n i j2 := by
            have hj2 := HJ2.out
            subst hj2
            refine Hp.Kid.right ent_ord h2 ?_
            have := HU.out; rw [HJ1.out] at this; simpa using this
          have HKK := hide hk
          clear hk
          have HKd : Hid (Hp.Kid Ent.first (fn L') n i j2) := hide (HKK.out)
          have hn2 := HN'.out
          have hjl : j2 < L'.length := by have := HKd.out.2.1; omega
          have hjn : j2 < n := HKd.out.2.1
          have hij : i < j2 := by have := HKd.out.1; omega
          have hqs : w2.cell? ⟨gq, 0, none⟩ = some (.slice (some ⟨g, 0, none⟩) len cap) := (HQ.out.tch HTW.out (fun e => hgq e)).cell rfl
          have ml := fun k => m_less (fuel := k) hqs
          clear hn2
          have HKr := hide ((HK.out.tch HTW.out (fun x hx e => hP (e ▸ hx))).perm HP'.out)
          obtain ⟨u2, hu2⟩ : ∃ u : Bool, u = true ↔ (fn L' j2).first (fn L' i) := by
            by_cases hf : (fn L' j2).first (fn L' i)
            · exact ⟨true, by simp [hf]⟩
            · exact ⟨false, by simp [hf]⟩
          have HU2 := hide hu2
          have HF1 := hide (fn_at hjl); have HF2 := hide (fn_at hil)
          have HK1 := hide (HKr.out.at_ hjl); have HK2 := hide (HKr.out.at_ hil)
          clear hu2
          go_wp2_with fail
          ((with_reducible refine (hless_calls w2 g cap len j2 i L' _ _ HAW.out HN'.out HF1.out HF2.out HK1.out.1 HK2.out.1 HK1.out.2 HK2.out.2 u2 HU2.out hcap).mono ?_); rintro e w3 ⟨rfl, b3⟩)
          have HB3 := hide b3
          have hqt : w3.cell? ⟨gq, 0, none⟩ = some (.slice (some ⟨g, 0, none⟩) len cap) := ((HQ.out.tch HTW.out (fun e => hgq e)).later b3).cell rfl
          clear ml
          have ms := fun k => m_swap (fuel := k) hqt
          have HA3 := hide (HAW.out.later b3)
          have HT3 := hide (HTW.out.trans b3.tch)
          clear b3 hqs
          cases u2 with
          | false =>
            go_wp2_with fail
            go_ret
            exact ⟨⟨_, rfl⟩, L', HP'.out, HA3.out, HT3.out, HD'.out.done ent_ord HKd.out (fun e => by have := HU2.out; simp at this; exact this e), HX'.out⟩
          | true =>
            go_wp2_with fail
            ((with_reducible refine (hswap_calls w3 g cap len i j2 L' _ _ HA3.out HN'.out HF2.out HF1.out hcap).mono ?_); rintro e w4 ⟨rfl, a4, o4⟩)
            have HA4 := hide a4; have HO4 := hide o4
            clear a4 o4 ms
            go_wp2_with fail
            go_roundw
            case rel => exact ⟨j2, swapE L' i j2, rfl, HA4, hide ((swapE_perm L' i j2 hil hjl).trans HP'.out), hide (HT3.out.trans (HO4.out.tch rfl)), hide (by rw [fn_swap L' i j2 hil hjl]; exact HD'.out.step ent_ord HKd.out (by have := HU2.out; simpa using this)), hide (fun k hk => by rw [swapE_at L' i j2 k hil hjl, if_neg (by omega), if_neg (by omega)]; exact HX'.out k hk), hide (by omega)⟩
            case measure => simp [intOf]; omega
      · have c2 : ¬ j2 < n := by omega
        have hk : Hp.Kid Ent.first (fn L') n i j1 := by
          subst hj1
          exact Hp.Kid.left ent_ord h1 fun e => absurd e h2
        have HKK := hide hk
        have HTW := HT'; have HAW := HA'
        clear hk hj1 hj2 hn'
        have HKd : Hid (Hp.Kid Ent.first (fn L') n i j1) := hide (HKK.out)
        have hn2 := HN'.out
        have hjl : j1 < L'.length := by have := HKd.out.2.1; omega
        have hjn : j1 < n := HKd.out.2.1
        have hij : i < j1 := by have := HKd.out.1; omega
        have hqs : wr.cell? ⟨gq, 0, none⟩ = some (.slice (some ⟨g, 0, none⟩) len cap) := (HQ.out.tch HTW.out (fun e => hgq e)).cell rfl
        have ml := fun k => m_less (fuel := k) hqs
        clear hn2
        have HKr := hide ((HK.out.tch HTW.out (fun x hx e => hP (e ▸ hx))).perm HP'.out)
        obtain ⟨u2, hu2⟩ : ∃ u : Bool, u = true ↔ (fn L' j1).first (fn L' i) := by
          by_cases hf : (fn L' j1).first (fn L' i)
          · exact ⟨true, by simp [hf]⟩
          · exact ⟨false, by simp [hf]⟩
        have HU2 := hide hu2
        have HF1 := hide (fn_at hjl); have HF2 := hide (fn_at hil)
        have HK1 := hide (HKr.out.at_ hjl); have HK2 := hide (HKr.out.at_ hil)
        clear hu2
        go_wp2_with fail
        ((with_reducible refine (hless_calls wr g cap len j1 i L' _ _ HAW.out HN'.out HF1.out HF2.out HK1.out.1 HK2.out.1 HK1.out.2 HK2.out.2 u2 HU2.out hcap).mono ?_); rintro e w3 ⟨rfl, b3⟩)
        have HB3 := hide b3
        have hqt : w3.cell? ⟨gq, 0, none⟩ = some (.slice (some ⟨g, 0, none⟩) len cap) := ((HQ.out.tch HTW.out (fun e => hgq e)).later b3).cell rfl
        clear ml
        have ms := fun k => m_swap (fuel := k) hqt
        have HA3 := hide (HAW.out.later b3)
        have HT3 := hide (HTW.out.trans b3.tch)
        clear b3 hqs
        cases u2 with
        | false =>
          go_wp2_with fail
          go_ret
          exact ⟨⟨_, rfl⟩, L', HP'.out, HA3.out, HT3.out, HD'.out.done ent_ord HKd.out (fun e => by have := HU2.out; simp at this; exact this e), HX'.out⟩
        | true =>
          go_wp2_with fail
          ((with_reducible refine (hswap_calls w3 g cap len i j1 L' _ _ HA3.out HN'.out HF2.out HF1.out hcap).mono ?_); rintro e w4 ⟨rfl, a4, o4⟩)
          have HA4 := hide a4; have HO4 := hide o4
          clear a4 o4 ms
          go_wp2_with fail
          go_roundw
          case rel => exact ⟨j1, swapE L' i j1, rfl, HA4, hide ((swapE_perm L' i j1 hil hjl).trans HP'.out), hide (HT3.out.trans (HO4.out.tch rfl)), hide (by rw [fn_swap L' i j1 hil hjl]; exact HD'.out.step ent_ord HKd.out (by have := HU2.out; simpa using this)), hide (fun k hk => by rw [swapE_at L' i j1 k hil hjl, if_neg (by omega), if_neg (by omega)]; exact HX'.out k hk), hide (by omega)⟩
          case measure => simp [intOf]; omega
    · have c1 : ¬ (2 * (i : Int) + 1 < (n : Int)) := by omega
      have c1' : (n : Int) ≤ 2 * (i : Int) + 1 := by omega
      clear hn'
      go_wp2_with fail
      go_ret
      exact ⟨⟨_, rfl⟩, L', HP'.out, HA'.out, HT'.out, HD'.out.leaf (by omega), HX'.out⟩
end Go.Proofs.Ytbhohnhkephefaa
