/- Plain numbers as limbs of 32 bits: what a list of limbs is worth, and the one trimmed list of a number. No program is in sight here. -/
import Derived.WalkKit
import Derived.WalkSpells
import Derived.Lib.Hide
import Derived.Laws.CopyOwn
import Derived.Deep.AppendLies
import Derived.Deep.Draws
import Derived.BigQuiet
import Derived.Deep.QuietTactic
import Derived.StillTailTactics
import Derived.Deep.RegionWith
import Derived.Deep.RegionHeld3
import Derived.Deep.LoopGhost
import Derived.Deep.DeepCutAuto
import Derived.Deep.DeepFit
import Derived.Test.YtncbebfhakcgdaaGreatProg
import Derived.RegionTactic
set_option linter.unusedVariables false
set_option linter.unusedSimpArgs false
set_option maxRecDepth 100000
namespace Go.Proofs.YtncbebfhakcgdaaGreat
def val : List Nat -> Nat
 | [] => 0
 | x :: l => x + 4294967296 * val l
def limbs (n : Nat) : List Nat := if h : n = 0 then [] else (n % 4294967296) :: limbs (n / 4294967296)
termination_by n
decreasing_by omega
@[simp] theorem val_nil : val [] = 0 := rfl
@[simp] theorem val_cons (x : Nat) (l : List Nat) : val (x :: l) = x + 4294967296 * val l := rfl
theorem limbs_zero : limbs 0 = [] := by rw [limbs]; simp
theorem limbs_pos {n : Nat} (h : n ≠ 0) : limbs n = (n % 4294967296) :: limbs (n / 4294967296) := by
 rw [limbs]; simp [h]
theorem val_limbs (n : Nat) : val (limbs n) = n := by
 induction n using Nat.strongRecOn with
 | _ n ih =>
   by_cases h : n = 0
   ·subst h; simp [limbs_zero]
   ·rw [limbs_pos h, val_cons, ih _ (by omega)]; omega
def AllLt (l : List Nat) : Prop := ∀ x ∈ l, x < 4294967296
theorem AllLt.nil : AllLt [] := by intro x h; cases h
theorem AllLt.cons {x : Nat} {l : List Nat} (h : x < 4294967296) (hl : AllLt l) : AllLt (x :: l) := by
 intro y hy; cases hy with
 | head => exact h
 | tail _ h' => exact hl _ h'
theorem AllLt.head {x : Nat} {l : List Nat} (h : AllLt (x :: l)) : x < 4294967296 := h _ (List.mem_cons_self ..)
theorem AllLt.tail {x : Nat} {l : List Nat} (h : AllLt (x :: l)) : AllLt l := fun y hy => h _ (List.mem_cons_of_mem _ hy)
theorem AllLt.append {a b : List Nat} (ha : AllLt a) (hb : AllLt b) : AllLt (a ++ b) := by
 intro x hx; rcases List.mem_append.1 hx with h | h
 ·exact ha x h
 ·exact hb x h
theorem AllLt.take {l : List Nat} (h : AllLt l) (k : Nat) : AllLt (l.take k) := fun x hx => h x (List.mem_of_mem_take hx)
theorem AllLt.drop {l : List Nat} (h : AllLt l) (k : Nat) : AllLt (l.drop k) := fun x hx => h x (List.mem_of_mem_drop hx)
theorem AllLt.at_ {l : List Nat} (h : AllLt l) {k x : Nat} (hk : l[k]? = some x) : x < 4294967296 := h x (List.mem_of_getElem? hk)
theorem AllLt.set {l : List Nat} (h : AllLt l) (k x : Nat) (hx : x < 4294967296) : AllLt (l.set k x) := by
 intro y hy
 rcases List.mem_or_eq_of_mem_set hy with h1 | h1
 ·exact h y h1
 ·omega
theorem AllLt.replicate (n : Nat) : AllLt (List.replicate n 0) := by
 intro x hx; have := List.eq_of_mem_replicate hx; omega
theorem limbs_lt (n : Nat) : AllLt (limbs n) := by
 induction n using Nat.strongRecOn with
 | _ n ih =>
   by_cases h : n = 0
   ·subst h; rw [limbs_zero]; exact AllLt.nil
   ·rw [limbs_pos h]; exact AllLt.cons (by omega) (ih _ (by omega))
theorem val_append (a b : List Nat) : val (a ++ b) = val a + 4294967296 ^ a.length * val b := by
 induction a with
 | nil => simp
 | cons x a ih => simp only [List.cons_append, val_cons, ih, List.length_cons, Nat.pow_succ, Nat.mul_add]; rw [Nat.mul_comm (4294967296 ^ a.length) 4294967296, Nat.mul_assoc]; omega
theorem val_replicate (n : Nat) : val (List.replicate n 0) = 0 := by
 induction n with
 | zero => rfl
 | succ n ih => simp [List.replicate_succ, ih]
theorem val_lt {l : List Nat} (h : AllLt l) : val l < 4294967296 ^ l.length := by
 induction l with
 | nil => simp
 | cons x l ih =>
   have h1 := ih h.tail
   have h2 := h.head
   simp only [val_cons, List.length_cons, Nat.pow_succ]
   have : val l + 1 <= 4294967296 ^ l.length := h1
   have := Nat.mul_le_mul_left 4294967296 this
   rw [Nat.mul_comm (4294967296 ^ l.length)]; omega
theorem limbs_val_of_last {l : List Nat} (h : AllLt l) (hl : ∀ x, l.getLast? = some x -> x ≠ 0) : limbs (val l) = l := by
 induction l with
 | nil => simp [limbs_zero]
 | cons x l ih =>
   have hx := h.head
   cases l with
   | nil =>
     have : x ≠ 0 := hl x (by simp)
     simp only [val_cons, val_nil, Nat.mul_zero, Nat.add_zero]
     rw [limbs_pos this, Nat.mod_eq_of_lt hx, Nat.div_eq_of_lt hx, limbs_zero]
   | cons y l =>
     have ih' := ih h.tail (by intro z hz; exact hl z (by simpa using hz))
     have hv : val (x :: y :: l) ≠ 0 := by
      intro h0
      have : val (y :: l) = 0 := by simp only [val_cons] at h0 ⊢; omega
      rw [this, limbs_zero] at ih'
      cases ih'
     rw [limbs_pos hv]
     have e1 : val (x :: y :: l) % 4294967296 = x := by simp only [val_cons]; omega
     have e2 : val (x :: y :: l) / 4294967296 = val (y :: l) := by simp only [val_cons]; omega
     rw [e1, e2, ih']
theorem val_take_drop (l : List Nat) (k : Nat) (h : k <= l.length) : val l = val (l.take k) + 4294967296 ^ k * val (l.drop k) := by
 conv => lhs; rw [<- List.take_append_drop k l]
 rw [val_append, List.length_take, Nat.min_eq_left h]
theorem take_limbs {l : List Nat} {k : Nat} (h : AllLt l) (hk : k <= l.length) (h0 : val (l.drop k) = 0) (h1 : ∀ x, 0 < k -> l[k-1]? = some x -> x ≠ 0) : l.take k = limbs (val l) := by
 have hv : val l = val (l.take k) := by rw [val_take_drop l k hk, h0]; simp
 rw [hv, limbs_val_of_last (h.take k)]
 intro x hx
 by_cases hk0 : k = 0
 ·subst hk0; simp at hx
 ·refine h1 x (by omega) ?_
  rw [List.getLast?_eq_getElem?, List.length_take, Nat.min_eq_left hk] at hx
  rw [List.getElem?_take_of_lt (by omega)] at hx
  exact hx
theorem length_limbs_le {n k : Nat} (h : n < 4294967296 ^ k) : (limbs n).length <= k := by
 induction k generalizing n with
 | zero => have : n = 0 := by simpa using h
           subst this; simp [limbs_zero]
 | succ k ih =>
   by_cases h0 : n = 0
   ·subst h0; simp [limbs_zero]
   ·rw [limbs_pos h0, List.length_cons]
    have : n / 4294967296 < 4294967296 ^ k := by
     rw [Nat.pow_succ] at h
     exact Nat.div_lt_of_lt_mul (by rw [Nat.mul_comm]; exact h)
    have := ih this; omega
theorem lt_of_length_limbs (n : Nat) : n < 4294967296 ^ (limbs n).length := by
 have := val_lt (limbs_lt n); rwa [val_limbs] at this
theorem limbs_ne_nil {n : Nat} (h : n ≠ 0) : limbs n ≠ [] := by rw [limbs_pos h]; simp
theorem limbs_eq_nil {n : Nat} : limbs n = [] ↔ n = 0 := by
 constructor
 ·intro h; exact Classical.byContradiction fun h0 => limbs_ne_nil h0 h
 ·rintro rfl; exact limbs_zero
theorem length_limbs_pos {n : Nat} : 0 < (limbs n).length ↔ n ≠ 0 := by
 rw [List.length_pos_iff]; simp [limbs_eq_nil]
theorem length_limbs_mono {a b : Nat} (h : a <= b) : (limbs a).length <= (limbs b).length :=
 length_limbs_le (Nat.lt_of_le_of_lt h (lt_of_length_limbs b))
theorem lt_of_length_lt {a b : Nat} (h : (limbs a).length < (limbs b).length) : a < b := by
 refine Classical.byContradiction fun hn => ?_
 have := length_limbs_mono (Nat.le_of_not_lt hn); omega
end Go.Proofs.YtncbebfhakcgdaaGreat
namespace Go.Proofs.YtncbebfhakcgdaaGreat
open Go.RowKit
abbrev Later (w w' : World) : Prop := Below w.heap.size w w'
theorem Later.refl (w : World) : Later w w := Below.refl _ _
theorem Later.trans {a b c : World} (h : Later a b) (k : Later b c) : Later a c := Below.trans h (Below.mono k h.size)
theorem Later.drew {a w : World} (h : Later a w) : Later a w.drew := Below.drew h
theorem Later.drewN {a w : World} (h : Later a w) (n : Nat) : Later a (w.drewN n) := ⟨h.os, h.tape, h.output, h.size, h.block⟩
theorem Later.alloc {a w : World} (h : Later a w) (o : Obj) : Later a (w.alloc o) := Below.alloc h h.size o
theorem Later.setCell {a w : World} (h : Later a w) {p : Addr} (hp : a.heap.size <= p.block) (u : Value) : Later a (w.setCell p u) := Below.setCell h hp u
theorem Later.grown {a w w' : World} {row : Option Nat} (h : Later a w) (hg : w.grownBy w' row) (hr : ∀ k, row = some k -> a.heap.size <= k) : Later a w' := Below.grown h hg h.size hr
theorem Later.cell {w w' : World} (h : Later w w') {p : Addr} {v : Value} (hp : w.cell? p = some v) : w'.cell? p = some v := (Below.cell h (World.block_lt_of_cell? w p hp)).trans hp
theorem below_drewN {B : Nat} {a w : World} (h : Below B a w) (n : Nat) : Below B a (w.drewN n) := ⟨h.os, h.tape, h.output, h.size, h.block⟩
def Row (w : World) (g : Nat) (t : TypeId) (cs : List Value) : Prop := w.heap[g]? = some (.cells cs.toArray t (0, 0))
section
variable {w w' : World} {g : Nat} {t : TypeId} {cs : List Value}
theorem Row.lt (h : Row w g t cs) : g < w.heap.size := by
 rcases Nat.lt_or_ge g w.heap.size with hlt | hge
 ·exact hlt
 ·unfold Row at h; rw [Array.getElem?_eq_none hge] at h; cases h
theorem Row.cell (h : Row w g t cs) {i : Nat} {u : Value} (hi : cs[i]? = some u) : w.cell? ⟨g, i, none⟩ = some u := by
 rw [cell_of_row w g i cs.toArray t (0, 0) h]; simpa using hi
theorem Row.frozen (h : Row w g t cs) (i : Nat) : w.frozen? ⟨g, i, none⟩ = false := by
 unfold Row at h
 simp [World.frozen?, h]
theorem Row.new (w : World) (t : TypeId) (cs : List Value) : Row (w.alloc (.cells cs.toArray t)) w.heap.size t cs := heap_alloc_new w _
theorem Row.drew (h : Row w g t cs) : Row w.drew g t cs := h
theorem Row.drewN (h : Row w g t cs) (n : Nat) : Row (w.drewN n) g t cs := h
theorem Row.alloc (h : Row w g t cs) (o : Obj) : Row (w.alloc o) g t cs := (Below.heap_alloc w o g h.lt).trans h
theorem Row.set_ (h : Row w g t cs) (i : Nat) (u : Value) : Row (w.setCell ⟨g, i, none⟩ u) g t (cs.set i u) := by
 unfold Row at h ⊢
 simp [World.setCell, Array.getElem?_modify, h]
theorem Row.far (h : Row w g t cs) {p : Addr} (hp : g ≠ p.block) (u : Value) : Row (w.setCell p u) g t cs := (Below.heap_setCell w p u g hp).trans h
theorem Row.later (h : Row w g t cs) (hb : Later w w') : Row w' g t cs := (hb.block g h.lt).trans h
theorem Row.grown {row : Option Nat} (h : Row w g t cs) (hb : w.grownBy w' row) (hg : some g ≠ row) : Row w' g t cs := (hb.block g h.lt hg).trans h
end
def Cells (w : World) (A : Option Addr) (xs : List Value) : Prop :=
 xs = [] ∨ ∃ b off, A = some ⟨b, off, none⟩ /\ ∀ j u, xs[j]? = some u -> w.cell? ⟨b, off + j, none⟩ = some u
section
variable {w w' : World} {A : Option Addr} {xs : List Value}
theorem Cells.nil (w : World) (A : Option Addr) : Cells w A [] := .inl rfl
theorem Cells.at_ (h : Cells w A xs) {k : Nat} (hk : k < xs.length) : ∃ b off, A = some ⟨b, off, none⟩ /\ ∀ j u, xs[j]? = some u -> w.cell? ⟨b, off + j, none⟩ = some u := by
 rcases h with rfl | h
 ·simp at hk
 ·exact h
theorem Cells.later (h : Cells w A xs) (hb : Later w w') : Cells w' A xs := by
 rcases h with rfl | ⟨b, off, rfl, h⟩
 ·exact .inl rfl
 ·exact .inr ⟨b, off, rfl, fun j u hj => hb.cell (h j u hj)⟩
theorem Cells.of_row {g : Nat} {t : TypeId} (h : Row w g t xs) : Cells w (some ⟨g, 0, none⟩) xs :=
 .inr ⟨g, 0, rfl, fun j u hj => by rw [Nat.zero_add]; exact h.cell hj⟩
theorem Cells.of_row_take {g : Nat} {t : TypeId} (h : Row w g t xs) (k : Nat) : Cells w (some ⟨g, 0, none⟩) (xs.take k) :=
 .inr ⟨g, 0, rfl, fun j u hj => by rw [Nat.zero_add]; exact h.cell (by
  rw [List.getElem?_take] at hj; split at hj
  ·exact hj
  ·cases hj)⟩
end
def Reads (w : World) (size : Nat) (v : Value) (n : Nat) (xs : List Value) : Prop :=
 ∃ A cap, v = .slice A n cap /\ n <= cap /\ cap <= maxLen /\ xs.length = n * size /\ Cells w A xs
theorem Reads.later {w w' : World} {size n : Nat} {v : Value} {xs : List Value} (h : Reads w size v n xs) (hb : Later w w') : Reads w' size v n xs := by
 obtain ⟨A, cap, h1, h2, h3, h4, h5⟩ := h
 exact ⟨A, cap, h1, h2, h3, h4, h5.later hb⟩
theorem Reads.nil (w : World) (size : Nat) : Reads w size (.slice none 0 0) 0 [] := ⟨none, 0, rfl, Nat.le_refl _, Nat.zero_le _, by simp, .inl rfl⟩
theorem Reads.of_own {w : World} {base size n : Nat} {e : TypeId} {v : Value} {xs : List Value} (h : w.ownsRow base e size v n xs) : Reads w size v n xs := by
 obtain ⟨h1, h2⟩ := h
 rcases h2 with ⟨rfl, rfl⟩ | ⟨g, cap, cur, rfl, hb, hg, hn, hm, hs, ht⟩
 ·have : xs = [] := List.eq_nil_of_length_eq_zero (by simpa using h1)
  subst this; exact Reads.nil w size
 ·refine ⟨_, cap, rfl, hn, hm, h1, ?_⟩
  have hr : Row w g e cur.toList := by unfold Row; simpa using hg
  rw [<- ht]; exact Cells.of_row_take hr _
def nums (q : IntKind) (l : List Nat) : List Value := l.map fun (x : Nat) => Value.int q (x : Int)
section
variable {q : IntKind}
theorem length_nums (l : List Nat) : (nums q l).length = l.length := by simp [nums]
theorem nums_at {l : List Nat} {k : Nat} (hk : k < l.length) : ∃ x : Nat, l[k]? = some x /\ (nums q l)[k]? = some (.int q (x : Int)) :=
 ⟨l[k], List.getElem?_eq_getElem hk, by simp [nums, hk]⟩
theorem nums_get {l : List Nat} {k x : Nat} (hk : l[k]? = some x) : (nums q l)[k]? = some (.int q (x : Int)) := by simp [nums, hk]
theorem nums_set (l : List Nat) (k x : Nat) : nums q (l.set k x) = (nums q l).set k (.int q (x : Int)) := by simp [nums, List.map_set]
theorem nums_append (a b : List Nat) : nums q (a ++ b) = nums q a ++ nums q b := by simp [nums]
theorem nums_take (a : List Nat) (k : Nat) : nums q (a.take k) = (nums q a).take k := by simp [nums]
theorem nums_replicate (n : Nat) : nums q (List.replicate n 0) = List.replicate n (.int q 0) := by simp [nums]
theorem nums_one (l : List Nat) : ∀ u ∈ nums q l, u.oneCell' = true := by
 intro u hu; simp [nums] at hu; obtain ⟨x, _, rfl⟩ := hu; rfl
end
def IsNums (q : IntKind) (w : World) (v : Value) (l : List Nat) : Prop := Reads w 1 v l.length (nums q l)
section
variable {q : IntKind} {w w' : World} {v : Value} {l : List Nat}
theorem IsNums.later (h : IsNums q w v l) (hb : Later w w') : IsNums q w' v l := Reads.later h hb
theorem IsNums.nil (q : IntKind) (w : World) : IsNums q w (.slice none 0 0) [] := Reads.nil w 1
theorem IsNums.form (h : IsNums q w v l) : ∃ A cap, v = .slice A l.length cap /\ l.length <= cap /\ cap <= maxLen /\ Cells w A (nums q l) := by
 obtain ⟨A, cap, h2, h3, h4, h5, h6⟩ := h
 exact ⟨A, cap, h2, h3, h4, h6⟩
theorem num_at {A : Option Addr} (h : Cells w A (nums q l)) {k : Nat} (hk : k < l.length) :
 ∃ b off x, A = some ⟨b, off, none⟩ /\ Hid (l[k]? = some x) /\ w.cell? ⟨b, off + k, none⟩ = some (.int q (x : Int)) := by
 obtain ⟨b, off, rfl, hc⟩ := h.at_ (k := k) (by rw [length_nums]; exact hk)
 obtain ⟨x, hx, hu⟩ := nums_at hk
 exact ⟨b, off, x, rfl, hx, hc k _ hu⟩
end
def OwnNums (q : IntKind) (T : TypeId) (w : World) (B : Nat) (v : Value) (l : List Nat) : Prop := w.ownsRow B T 1 v l.length (nums q l)
section
variable {q : IntKind} {T : TypeId} {w w' : World} {B B' : Nat} {v : Value} {l : List Nat}
theorem OwnNums.reads (h : OwnNums q T w B v l) : IsNums q w v l := Reads.of_own h
theorem OwnNums.of_row {g cap : Nat} (h : Row w g T (nums q l)) (hB : B <= g) (hc : l.length = cap) (hm : cap <= maxLen) : OwnNums q T w B (.slice (some ⟨g, 0, none⟩) cap cap) l := by
 subst hc
 refine ⟨by rw [length_nums]; simp, .inr ⟨g, l.length, (nums q l).toArray, rfl, hB, h, Nat.le_refl _, hm, by simp [length_nums], ?_⟩⟩
 exact List.take_of_length_le (by simp [length_nums])
theorem OwnNums.nil (q : IntKind) (T : TypeId) (w : World) (B : Nat) : OwnNums q T w B (.slice none 0 0) [] := World.ownsRow_nil w B T 1
theorem OwnNums.later (h : OwnNums q T w B v l) (hb : Later w w') : OwnNums q T w' B v l := by
 obtain ⟨h2, h3⟩ := h
 refine ⟨h2, ?_⟩
 rcases h3 with h3 | ⟨g, cap, cur, rfl, hb', hg, r⟩
 ·exact .inl h3
 ·exact .inr ⟨g, cap, cur, rfl, hb', Row.later (cs := cur.toList) hg hb, r⟩
theorem OwnNums.weaken (h : OwnNums q T w B v l) (hB : B' <= B) : OwnNums q T w B' v l := by
 obtain ⟨h2, h3⟩ := h
 refine ⟨h2, ?_⟩
 rcases h3 with h3 | ⟨g, cap, cur, rfl, hb, r⟩
 ·exact .inl h3
 ·exact .inr ⟨g, cap, cur, rfl, Nat.le_trans hB hb, r⟩
theorem OwnNums.row (h : OwnNums q T w B v l) : v = .slice none 0 0 /\ l = [] ∨ ∃ g cap sp, v = .slice (some ⟨g, 0, none⟩) l.length cap /\ B <= g /\ Row w g T (nums q l ++ sp) /\ l.length <= cap /\ cap <= maxLen := by
 obtain ⟨h2, h3⟩ := h
 rcases h3 with ⟨h3, h4⟩ | ⟨g, cap, cur, rfl, hb, hg, hn, hm, hs, ht⟩
 ·exact .inl ⟨h3, List.eq_nil_of_length_eq_zero h4⟩
 ·refine .inr ⟨g, cap, cur.toList.drop (l.length * 1), rfl, hb, ?_, hn, hm⟩
  unfold Row; rw [hg, <- ht, List.take_append_drop]
end
def U32s (w : World) (v : Value) (l : List Nat) : Prop := AllLt l /\ IsNums .u32 w v l
section
variable {w w' : World} {v : Value} {l : List Nat}
theorem U32s.later (h : U32s w v l) (hb : Later w w') : U32s w' v l := ⟨h.1, h.2.later hb⟩
theorem U32s.nil (w : World) : U32s w (.slice none 0 0) [] := ⟨AllLt.nil, IsNums.nil _ w⟩
theorem U32s.form (h : U32s w v l) : ∃ A cap, v = .slice A l.length cap /\ l.length <= cap /\ cap <= maxLen /\ AllLt l /\ Cells w A (nums .u32 l) := by
 obtain ⟨h1, A, cap, h2, h3, h4, h5, h6⟩ := h
 exact ⟨A, cap, h2, h3, h4, h1, h6⟩
theorem limb_at {A : Option Addr} (h : Cells w A (nums .u32 l)) (hl : AllLt l) {k : Nat} (hk : k < l.length) :
 ∃ b off x, A = some ⟨b, off, none⟩ /\ Hid (l[k]? = some x) /\ x < 4294967296 /\ w.cell? ⟨b, off + k, none⟩ = some (.int .u32 (x : Int)) := by
 obtain ⟨b, off, x, rfl, hx, hc⟩ := num_at h hk
 exact ⟨b, off, x, rfl, hx, hl.at_ hx.out, hc⟩
end
def Own32 (T : TypeId) (w : World) (B : Nat) (v : Value) (l : List Nat) : Prop := AllLt l /\ OwnNums .u32 T w B v l
theorem Own32.reads {T : TypeId} {w : World} {B : Nat} {v : Value} {l : List Nat} (h : Own32 T w B v l) : U32s w v l := ⟨h.1, h.2.reads⟩
theorem Own32.later {T : TypeId} {w w' : World} {B : Nat} {v : Value} {l : List Nat} (h : Own32 T w B v l) (hb : Later w w') : Own32 T w' B v l := ⟨h.1, h.2.later hb⟩
theorem Own32.weaken {T : TypeId} {w : World} {B B' : Nat} {v : Value} {l : List Nat} (h : Own32 T w B v l) (hB : B' <= B) : Own32 T w B' v l := ⟨h.1, h.2.weaken hB⟩
theorem hide {p : Prop} (h : p) : Hid p := h
def Ret (w : World) (Q : World -> Value -> Prop) (e : Ending) (w' : World) : Prop := ∃ v, e = .returned v /\ Q w' v /\ Later w w'
def Ret2 (w : World) (Q : World -> Value -> Value -> Prop) (e : Ending) (w' : World) : Prop := ∃ v u, e = .returned (.tuple #[v, u]) /\ Q w' v u /\ Later w w'
def Ret3 (w : World) (Q : World -> Value -> Value -> Value -> Prop) (e : Ending) (w' : World) : Prop := ∃ v u t, e = .returned (.tuple #[v, u, t]) /\ Q w' v u t /\ Later w w'
def RetV (w : World) (v : Value) (e : Ending) (w' : World) : Prop := e = .returned v /\ Later w w'
theorem wpList_make_row {P : Program} {w : World} {ops : Array Oper} {rest : List Oper} {o : Oper} {a : Act} {Q : Exit -> Act -> World -> Prop}
 (hg : o.guard = none) (l c : Operand) (t : TypeId) (hop : o.op = Op.makeSlice t l c)
 (e : TypeId) (z : Value) (bytes : Nat) (h1 : P.underlying t = some (.slice e)) (h2 : (P.info? e).map (fun i => (i.zero, i.size, i.bytes)) = some (some z, 1, bytes)) (h3 : z.cells = #[z])
 (kl kc : IntKind) (L C : Int) (n : Nat) (hl : a.eval l = .int kl L) (hc : a.eval c = .int kc C) (hL : L = (n : Int)) (hC : C = (n : Int)) (b2 : bytes * n <= 281474976710656) (b3 : n <= maxLen)
 (hK : ∀ g w', w.heap.size <= g -> Row w' g e (List.replicate n z) -> Later w w' -> wpList P ops Q rest (a.put o.dst (.slice (some ⟨g, 0, none⟩) n n)) w') :
 wpList P ops Q (o :: rest) a w := by
 obtain ⟨i, hi, hz, hs, hb⟩ := info_parts h2
 refine wpList_make_full w hg l c t hop w.heap.size e i z 1 h1 hi hz hs kl kc L C n hl hc hL hC (by rw [hb]; exact b2) b3 (Nat.le_refl _) ?_
 intro w' hown hgr
 refine hK _ w' (Nat.le_refl _) ?_ (Later.grown (Later.refl w) hgr (fun k hk => by cases hk))
 obtain ⟨hlen, hh⟩ := hown
 have hmc : (madeCells z.cells (n * 1)).toList = List.replicate n z := by
  rw [h3]
  apply List.ext_getElem
  ·simp [madeCells]
  ·intro k hk1 hk2
   simp [madeCells, Nat.mod_one]
 rw [hmc] at hh hlen
 rcases hh with ⟨h, rfl⟩ | ⟨g, cap, cur, h, hb', hg', hn, hm, hsz, ht⟩
 ·simp at h
 ·simp only [Value.slice.injEq, Option.some.injEq, Addr.mk.injEq, and_true] at h
  obtain ⟨h5, h6⟩ := h
  have h7 : g = w.heap.size := by simpa using h5.symm
  subst h7
  have h8 : cap = n := by omega
  subst h8
  have h9 : cur.toList = List.replicate cap z := by
   rw [<- ht]; symm; apply List.take_of_length_le; rw [Array.length_toList, hsz]; exact Nat.le_refl _
  unfold Row; rw [hg', <- h9]
end Go.Proofs.YtncbebfhakcgdaaGreat
namespace Go.Proofs.YtncbebfhakcgdaaGreat
open Go.RowKit
theorem info_u32 : (Tryz.prog.info? 160).map (fun i => (i.zero, i.size, i.bytes)) = some (some (.int .u32 0), 1, 4) := by kernel_rfl
theorem size_u32 : (Tryz.prog.info? 160).map (·.size) = some 1 := by kernel_rfl
theorem own_of_copy {w : World} {B g k n : Nat} {l : List Nat} {T : TypeId} (hl : AllLt l) (hn : n = l.length) (hk : k <= n) (hm : k <= maxLen) (hB : B <= g) (hf : l.take k = limbs (val l))
 (hr : w.heap[g]? = some (.cells (splice (List.replicate k (Value.int .u32 0)) 0 (nums .u32 (l.take k))).toArray T (0, 0))) :
 Own32 T w B (.slice (some ⟨g, 0, none⟩) k k) (limbs (val l)) := by
 rw [<- hf]
 have e : splice (List.replicate k (Value.int .u32 0)) 0 (nums .u32 (l.take k)) = nums .u32 (l.take k) := by
  have hlen : (nums .u32 (l.take k)).length = k := by rw [length_nums, List.length_take]; omega
  simp [splice, hlen]
 rw [e] at hr
 exact ⟨hl.take k, OwnNums.of_row hr hB (by rw [List.length_take]; omega) hm⟩
theorem copy_src {w : World} {A : Option Addr} {l : List Nat} {k : Nat} (h : Cells w A (nums .u32 l)) (hk : 0 < (nums .u32 (l.take k)).length) :
 ∃ ad, A = some ad /\ ∀ j u, (nums .u32 (l.take k))[j]? = some u -> w.cell? (ad.add j) = some u := by
 have hk' : 0 < (nums .u32 l).length := by
  rw [length_nums, List.length_take] at hk; rw [length_nums]; omega
 obtain ⟨b, off, rfl, hc⟩ := h.at_ hk'
 refine ⟨_, rfl, fun j u hj => ?_⟩
 rw [Go.WideShapes.add_plain]
 refine hc j u ?_
 rw [nums_take, List.getElem?_take] at hj
 split at hj
 ·exact hj
 ·cases hj
set_option maxHeartbeats 400000 in
theorem trim_calls (w : World) (v : Value) (l : List Nat) (h : U32s w v l) (hl : l.length <= 2000000000) :
 Calls Tryz.prog 163 #[v] w (Ret w fun w' v' => Own32 160 w' w.heap.size v' (limbs (val l))) := by
 obtain ⟨A, cap, rfl, hcap, hcm, hlt, hc⟩ := h.form
 obtain ⟨n, hn⟩ : ∃ n, n = l.length := ⟨_, rfl⟩
 rw [<- hn] at hl hcap ⊢
 have HN := hide hn; clear hn h
 go_enter Tryz.func163, Tryz.ntmps163
 go_wp2
 go_loop [3] (fun i => ∃ k : Nat, k <= n /\ i = .int .i64 k /\ Hid (val (l.drop k) = 0)) (fun i => (intOf i).toNat)
 case atStart => exact ⟨n, Nat.le_refl _, rfl, hide (by rw [HN.out]; simp)⟩
 case round =>
  obtain ⟨k, hk, rfl, hz⟩ := hrel
  by_cases hgo : 0 < k /\ l[k-1]? = some 0
  ·obtain ⟨h0, hx0⟩ := hgo
   have HX0 := hide hx0; clear hx0
   obtain ⟨b, off, x, rfl, hx, hxl, hcell⟩ := limb_at hc hlt (k := k - 1) (by have := HN.out; omega)
   obtain rfl : x = 0 := by have h1 := hx.out; rw [HX0.out] at h1; simpa using h1.symm
   go_wp2
   go_round
   case rel =>
    refine ⟨k - 1, by omega, by go_num, hide ?_⟩
    have h1 : l.drop (k-1) = 0 :: l.drop k := by
     have h2 := HX0.out
     rw [List.getElem?_eq_some_iff] at h2
     obtain ⟨h3, h4⟩ := h2
     rw [List.drop_eq_getElem_cons h3, h4]
     congr 2; omega
    rw [h1, val_cons, hz.out]
   case measure => simp [intOf]; omega
  ·have hfin := hide (take_limbs hlt (by rw [<- HN.out]; exact hk) hz.out (fun x hk0 hx hx0 => hgo ⟨hk0, by rw [<- hx0]; exact hx⟩))
   have htest : (0 < k /\ ∃ b off, ∃ x : Nat, A = some ⟨b, off, none⟩ /\ x < 4294967296 /\ ((x : Int) == 0) = false /\ w.cell? ⟨b, off + (k - 1), none⟩ = some (.int .u32 (x : Int))) ∨ ¬ 0 < k := by
    by_cases h0 : 0 < k
    ·obtain ⟨b, off, x, rfl, hx, hxl, hcell⟩ := limb_at hc hlt (k := k - 1) (by have := HN.out; omega)
     refine .inl ⟨h0, b, off, x, rfl, hxl, ?_, hcell⟩
     rw [beq_eq_false_iff_ne]
     intro hx0
     have : x = 0 := by omega
     subst this
     exact hgo ⟨h0, hx.out⟩
    ·exact .inr h0
   clear hgo
   obtain ⟨cs, hcs⟩ : ∃ cs, cs = nums .u32 (l.take k) := ⟨_, rfl⟩
   have hcl : cs.length = k := by rw [hcs, length_nums, List.length_take, <- HN.out]; omega
   have hone : ∀ u ∈ cs, u.oneCell' = true := by rw [hcs]; exact nums_one _
   have HCS := hide hcs; clear hcs
   have HCL := hide hcl; clear hcl
   have HO := hide hone; clear hone
   rcases htest with ⟨h0, b, off, x, rfl, hxl, hxt, hcell⟩ | h0
   all_goals
    go_wp2_with (first
     | (at_make; refine wpList_make_row rfl (.tmp 19) (.tmp 19) _ rfl 160 (.int .u32 0) 4 Tryz.underlying63 info_u32 rfl _ _ _ _ k rfl rfl rfl rfl (by omega) (by omega) ?_; intro g w1 hg1 hr1 hb1)
     | (refine wpList_copy_splice rfl (.tmp 21) (.tmp 22) _ _ rfl 160 Tryz.underlying63 size_u32 _ _ _ _ _ _ rfl rfl g 0 (List.replicate k (.int .u32 0)) 160 hr1 cs (HCL.out.trans (Nat.min_eq_right hk).symm) (fun hp => ⟨rfl, by rw [HCS.out] at hp ⊢; exact copy_src (hc.later hb1) hp⟩) (by rw [HCL.out]; simp) HO.out w.heap.size w hb1 hg1 ?_; intro w2 hr2 hb2))
    go_ret
    exact ⟨_, rfl, own_of_copy hlt HN.out hk (by omega) hg1 hfin.out (by rw [<- HCS.out]; exact hr2.out), hb2⟩
end Go.Proofs.YtncbebfhakcgdaaGreat
namespace Go.Proofs.YtncbebfhakcgdaaGreat
open Go.RowKit
def cmpN (a b : Nat) : Int := if a < b then -1 else if b < a then 1 else 0
theorem cmpN_lt {a b : Nat} (h : a < b) : cmpN a b = -1 := by simp [cmpN, h]
theorem cmpN_gt {a b : Nat} (h : b < a) : cmpN a b = 1 := by unfold cmpN; rw [if_neg (by omega), if_pos h]
theorem cmpN_eq {a b : Nat} (h : a = b) : cmpN a b = 0 := by subst h; simp [cmpN]
theorem cmpN_neg {a b : Nat} : (cmpN a b < 0) = (a < b) := by
 unfold cmpN; split
 ·simp [*]
 ·split <;> simp <;> omega
def lex : List Nat -> List Nat -> Int
 | [], [] => 0
 | [], _ :: _ => -1
 | _ :: _, [] => 1
 | x :: a, y :: b => if x = y then lex a b else cmpN x y
theorem lex_drop {a b : List Nat} {k x y : Nat} (hx : a[k]? = some x) (hy : b[k]? = some y) : lex (a.drop k) (b.drop k) = if x = y then lex (a.drop (k+1)) (b.drop (k+1)) else cmpN x y := by
 obtain ⟨h1, rfl⟩ := List.getElem?_eq_some_iff.1 hx
 obtain ⟨h2, rfl⟩ := List.getElem?_eq_some_iff.1 hy
 rw [List.drop_eq_getElem_cons h1, List.drop_eq_getElem_cons h2]; rfl
theorem lex_snoc (a b : List Nat) (hab : a.length = b.length) (x y : Nat) (ha : AllLt a) (hb : AllLt b) : lex (a ++ [x]) (b ++ [y]) = if lex a b = 0 then cmpN x y else lex a b := by
 induction a generalizing b with
 | nil => cases b with
   | nil => simp only [List.nil_append, lex]; by_cases h : x = y <;> simp [h, cmpN]
   | cons y b => simp at hab
 | cons u a ih =>
   cases b with
   | nil => simp at hab
   | cons v b =>
     simp only [List.cons_append, lex]
     by_cases h : u = v
     ·simp only [h, if_true]; exact ih b (by simpa using hab) ha.tail hb.tail
     ·simp only [h, if_false]
      have : cmpN u v ≠ 0 := by unfold cmpN; split <;> (try split) <;> omega
      simp [this]
theorem lex_reverse (a b : List Nat) (hab : a.length = b.length) (ha : AllLt a) (hb : AllLt b) : lex a.reverse b.reverse = cmpN (val a) (val b) := by
 induction a generalizing b with
 | nil => cases b with
   | nil => simp [lex, cmpN]
   | cons y b => simp at hab
 | cons x a ih =>
   cases b with
   | nil => simp at hab
   | cons y b =>
     have hab' : a.length = b.length := by simpa using hab
     rw [List.reverse_cons, List.reverse_cons, lex_snoc _ _ (by simpa using hab') x y (fun z hz => ha.tail z (by simpa using hz)) (fun z hz => hb.tail z (by simpa using hz)), ih b hab' ha.tail hb.tail]
     have hx := ha.head; have hy := hb.head
     simp only [val_cons]
     generalize val a = m; generalize val b = n
     unfold cmpN
     repeat' split
     all_goals first | rfl | omega
theorem isNaN_calls (x : Int) (w : World) : Calls Tryz.prog 191 #[.int .u32 x] w fun e w' => e = .returned (.bool false) /\ w = w' := by
 go_enter Tryz.func191, Tryz.ntmps191
 go_wp2
 go_ret
 exact ⟨by simp, rfl⟩
set_option maxHeartbeats 400000 in
theorem compare_calls (x y : Nat) (w : World) : Calls Tryz.prog 181 #[.int .u32 x, .int .u32 y] w fun e w' => e = .returned (.int .i64 (cmpN x y)) /\ w = w' := by
 rcases Nat.lt_trichotomy x y with h | h | h
 ·have hf := hide (cmpN_lt h)
  have h1 : decide ((x : Int) < y) = true := by simp; omega
  go_enter Tryz.func181, Tryz.ntmps181
  go_wp2_with (go_at_call 191; refine (isNaN_calls _ _).mono ?_; rintro e w' ⟨rfl, rfl⟩)
  go_ret
  exact ⟨by rw [hf.out]; rfl, rfl⟩
 ·subst h
  have hf := hide (cmpN_eq (rfl : x = x))
  go_enter Tryz.func181, Tryz.ntmps181
  go_wp2_with (go_at_call 191; refine (isNaN_calls _ _).mono ?_; rintro e w' ⟨rfl, rfl⟩)
  go_ret
  exact ⟨by rw [hf.out]; rfl, rfl⟩
 ·have hf := hide (cmpN_gt h)
  have h1 : decide ((x : Int) < y) = false := by simp; omega
  have h2 : decide ((y : Int) < x) = true := by simp; omega
  go_enter Tryz.func181, Tryz.ntmps181
  go_wp2_with (go_at_call 191; refine (isNaN_calls _ _).mono ?_; rintro e w' ⟨rfl, rfl⟩)
  go_ret
  exact ⟨by rw [hf.out]; rfl, rfl⟩
set_option maxHeartbeats 400000 in
theorem limb_calls (w : World) (v : Value) (l : List Nat) (h : U32s w v l) (i : Nat) (hi : i <= 4000000000) :
 Calls Tryz.prog 192 #[v, .int .i64 i] w fun e w' => e = .returned (.int .u64 (l.getD i 0 : Nat)) /\ w = w' := by
 obtain ⟨A, cap, rfl, hcap, hcm, hlt, hc⟩ := h.form
 by_cases hlt' : i < l.length
 ·obtain ⟨b, off, x, rfl, hx, hxl, hcell⟩ := limb_at hc hlt hlt'
  have hf : Hid (l.getD i 0 = x) := hide (by rw [List.getD_eq_getElem?_getD, hx.out]; rfl)
  clear hc hlt hx h
  have hd : decide ((l.length : Int) <= i) = false := by simp; omega
  go_enter Tryz.func192, Tryz.ntmps192
  go_wp2
  go_ret
  exact ⟨by rw [hf.out]; rfl, rfl⟩
 ·have hf : Hid (l.getD i 0 = 0) := hide (by rw [List.getD_eq_getElem?_getD, List.getElem?_eq_none (by omega)]; rfl)
  clear hc hlt h
  have hd : decide ((l.length : Int) <= i) = true := by simp; omega
  go_enter Tryz.func192, Tryz.ntmps192
  go_wp2
  go_ret
  refine ⟨by rw [hf.out]; rfl, rfl⟩
end Go.Proofs.YtncbebfhakcgdaaGreat
namespace Go.Proofs.YtncbebfhakcgdaaGreat
open Go.RowKit
theorem only_drew {a w : World} {row : Option Nat} (h : a.grownBy w row) : a.grownBy w.drew row := ⟨h.os, h.tape, h.output, h.size, h.block⟩
theorem only_setCell {a w : World} {g : Nat} (h : a.grownBy w (some g)) {p : Addr} (hp : p.block = g ∨ a.heap.size <= p.block) (u : Value) : a.grownBy (w.setCell p u) (some g) :=
 ⟨h.os, h.tape, h.output, by simpa [World.setCell] using h.size, fun i hi hne => (Below.heap_setCell w p u i (by
  rintro rfl
  rcases hp with hp | hp
  ·exact hne (by rw [hp])
  ·omega)).trans (h.block i hi hne)⟩
structure Turned (l l' : List Nat) (k m : Nat) : Prop where
 len : l'.length = l.length
 sum : k + m = l.length
 km : k <= m
 low : ∀ i, i < k -> l'[i]? = l[l.length - 1 - i]?
 high : ∀ i, m <= i -> i < l.length -> l'[i]? = l[l.length - 1 - i]?
 mid : ∀ i, k <= i -> i < m -> l'[i]? = l[i]?
theorem Turned.start (l : List Nat) : Turned l l 0 l.length :=
 ⟨rfl, by simp, by simp, fun i h => by omega, fun i h1 h2 => by omega, fun i _ _ => rfl⟩
theorem Turned.done {l l' : List Nat} {k m : Nat} (h : Turned l l' k m) (hd : m <= k + 1) : l' = l.reverse := by
 have := h.sum; have := h.km; have hlen := h.len
 apply List.ext_getElem?
 intro i
 by_cases hi : i < l.length
 ·rw [List.getElem?_reverse hi]
  by_cases h1 : i < k
  ·exact h.low i h1
  ·by_cases h2 : m <= i
   ·exact h.high i h2 hi
   ·rw [h.mid i (by omega) (by omega)]; congr 1; omega
 ·rw [List.getElem?_eq_none (by omega), List.getElem?_eq_none (by simp; omega)]
theorem Turned.step {l l' : List Nat} {k m x y : Nat} (h : Turned l l' k m) (hk : k + 1 < m) (hx : l'[k]? = some x) (hy : l'[m-1]? = some y) :
 Turned l ((l'.set k y).set (m-1) x) (k+1) (m-1) := by
 have hs := h.sum; have := h.km; have hlen := h.len
 have hx' : l[k]? = some x := by rw [<- h.mid k (by omega) (by omega)]; exact hx
 have hy' : l[m-1]? = some y := by rw [<- h.mid (m-1) (by omega) (by omega)]; exact hy
 refine ⟨by simp [hlen], by omega, by omega, ?_, ?_, ?_⟩
 ·intro i hi
  rw [List.getElem?_set, if_neg (by omega), List.getElem?_set]
  by_cases h1 : k = i
  ·subst h1; rw [if_pos rfl, if_pos (by omega), <- hy']; congr 1; omega
  ·rw [if_neg h1]; exact h.low i (by omega)
 ·intro i h1 h2
  rw [List.getElem?_set]
  by_cases h3 : m - 1 = i
  ·subst h3; rw [if_pos rfl, if_pos (by simp; omega), <- hx']; congr 1; omega
  ·rw [if_neg h3, List.getElem?_set, if_neg (by omega)]; exact h.high i (by omega) h2
 ·intro i h1 h2
  rw [List.getElem?_set, if_neg (by omega), List.getElem?_set, if_neg (by omega)]
  exact h.mid i (by omega) (by omega)
theorem row_two {w : World} {g k m x y : Nat} {T : TypeId} {l' : List Nat} {sp : List Value} (h : Row w g T (nums .u32 l' ++ sp)) (hk : k < l'.length) (hm : m < l'.length) :
 Row (((w.setCell ⟨g, k, none⟩ (.int .u32 (y : Int))).setCell ⟨g, m, none⟩ (.int .u32 (x : Int))).drew) g T (nums .u32 ((l'.set k y).set m x) ++ sp) := by
 have h1 := (h.set_ k (.int .u32 (y : Int))).set_ m (.int .u32 (x : Int))
 rw [List.set_append_left _ _ (by rw [length_nums]; exact hk), List.set_append_left _ _ (by rw [List.length_set, length_nums]; exact hm), <- nums_set, <- nums_set] at h1
 exact h1.drew
set_option maxHeartbeats 1000000 in
theorem reverse_row (w : World) (g n cap : Nat) (l : List Nat) (sp : List Value) (hn : n = l.length) (hl : n <= 2000000000) (h : Row w g 160 (nums .u32 l ++ sp)) :
 Calls Tryz.prog 169 #[.slice (some ⟨g, 0, none⟩) n cap] w fun e w' => e = .returned (.tuple #[]) /\ Row w' g 160 (nums .u32 l.reverse ++ sp) /\ w.grownBy w' (some g) := by
 have HN := hide hn; clear hn
 go_enter Tryz.func169, Tryz.ntmps169
 go_wp2
 go_loopw [2, 3] (fun i j wr => ∃ k m l', i = .int .i64 ((k : Nat) : Int) /\ j = .int .i64 (((m : Nat) : Int) - 1) /\ Hid (Turned l l' k m) /\ Row wr g 160 (nums .u32 l' ++ sp) /\ w.grownBy wr (some g)) (fun i j _ => (intOf j - intOf i + 1).toNat)
 case atStart => exact ⟨0, n, l, rfl, rfl, hide (by rw [HN.out]; exact Turned.start l), h, World.grownBy.refl _ _⟩
 case round =>
  obtain ⟨k, m, l', rfl, rfl, ht, hr, hg⟩ := hrel
  have hkm := ht.out.km
  have hmn : m <= n := by have := ht.out.sum; have := HN.out; omega
  by_cases hlt : k + 1 < m
  ·have hl' : l'.length = n := by rw [ht.out.len, HN.out]
   obtain ⟨x, hx, hxu⟩ := nums_at (q := .u32) (l := l') (k := k) (by omega)
   obtain ⟨y, hy, hyu⟩ := nums_at (q := .u32) (l := l') (k := m-1) (by omega)
   have c1 : wr.cell? ⟨g, k, none⟩ = some (.int .u32 (x : Int)) := hr.cell (by rw [List.getElem?_append_left (by rw [length_nums]; omega)]; exact hxu)
   have c2 : wr.cell? ⟨g, m-1, none⟩ = some (.int .u32 (y : Int)) := hr.cell (by rw [List.getElem?_append_left (by rw [length_nums]; omega)]; exact hyu)
   have f1 := hr.frozen k
   have f2 := hr.frozen (m-1)
   have HT := hide (ht.out.step hlt hx hy)
   have HR := hide (row_two (x := x) (y := y) hr (k := k) (m := m - 1) (by omega) (by omega))
   have HG := hide (only_drew (only_setCell (only_setCell hg (p := ⟨g, k, none⟩) (.inl rfl) (.int .u32 (y:Int))) (p := ⟨g, m-1, none⟩) (.inl rfl) (.int .u32 (x:Int))))
   clear hx hy hxu hyu hl' ht hr hg
   go_wp2
   go_region
   go_wp2
   go_roundw
   case rel => exact ⟨k+1, m-1, _, by go_num, by go_num, HT, HR.out, HG.out⟩
   case measure => simp [intOf]; omega
  ·have HD := hide (ht.out.done (by omega))
   have h1 : decide ((k : Int) < (m : Int) - 1) = false := by simp; omega
   go_wp2
   go_end0
   exact ⟨rfl, by rw [<- HD.out]; exact hr, hg⟩
theorem reverse_own (w : World) (B : Nat) (v : Value) (l : List Nat) (hl : l.length <= 2000000000) (h : Own32 160 w B v l) :
 Calls Tryz.prog 169 #[v] w fun e w' => e = .returned (.tuple #[]) /\ Own32 160 w' B v l.reverse /\ w.grownBy w' v.ownBlock := by
 obtain ⟨hlt, ho⟩ := h
 have hlt' : AllLt l.reverse := fun x hx => hlt x (by simpa using hx)
 rcases ho.row with ⟨rfl, rfl⟩ | ⟨g, cap, sp, rfl, hB, hr, hc, hm⟩
 ·go_enter Tryz.func169, Tryz.ntmps169
  go_wp2
  refine wp_loop_once ?_
  go_wp2
  go_end0
  exact ⟨rfl, ⟨AllLt.nil, OwnNums.nil _ _ _ _⟩, World.grownBy.refl _ _⟩
 ·refine (reverse_row w g l.length cap l sp rfl hl hr).mono ?_
  rintro e w' ⟨he, hr', hg⟩
  refine ⟨he, ⟨hlt', ?_⟩, hg⟩
  obtain ⟨h2, h3⟩ := ho
  refine ⟨by simp [length_nums], .inr ⟨g, cap, (nums .u32 l.reverse ++ sp).toArray, by simp, hB, hr', by simpa using hc, hm, ?_, ?_⟩⟩
  ·rcases h3 with ⟨h3, _⟩ | ⟨g', cap', cur, h3, _, hg', _, _, hs, _⟩
   ·simp at h3
   ·simp only [Value.slice.injEq, Option.some.injEq, Addr.mk.injEq, and_true, true_and] at h3
    obtain ⟨rfl, rfl⟩ := h3
    unfold Row at hr
    rw [hr] at hg'
    have : cur = (nums .u32 l ++ sp).toArray := by injection hg' with h4; injection h4 with h5; exact h5.symm
    subst this
    simpa [length_nums] using hs
  ·simp [length_nums]
set_option maxHeartbeats 1000000 in
theorem compare_slices (w : World) (v u : Value) (a b : List Nat) (h : U32s w v a) (h' : U32s w u b) (ha : a.length <= 2000000000) (hab : a.length = b.length) :
 Calls Tryz.prog 170 #[v, u] w fun e w' => e = .returned (.int .i64 (lex a b)) /\ w = w' := by
 obtain ⟨A, cap, rfl, hcap, hcm, hlt, hc⟩ := h.form
 obtain ⟨A', cap', rfl, hcap', hcm', hlt', hc'⟩ := h'.form
 obtain ⟨n, hn⟩ : ∃ n, n = a.length := ⟨_, rfl⟩
 rw [<- hab, <- hn]; rw [<- hn] at ha
 have HB := hide (hn.trans hab)
 have HN := hide hn; clear hn hab h h' hcap hcap'
 go_enter Tryz.func170, Tryz.ntmps170
 go_wp2
 go_loop [11] (fun i => ∃ k : Nat, k <= n /\ i = .int .i64 k /\ Hid (lex (a.drop k) (b.drop k) = lex a b)) (fun i => (n - intOf i).toNat)
 case atStart => exact ⟨0, by omega, rfl, hide (by simp)⟩
 case round =>
  obtain ⟨k, hk, rfl, hx⟩ := hrel
  by_cases hkn : k < n
  ·obtain ⟨b1, o1, x, rfl, hx1, hxl, hcx⟩ := limb_at hc hlt (k := k) (by rw [<- HN.out]; exact hkn)
   obtain ⟨b2, o2, y, rfl, hy1, hyl, hcy⟩ := limb_at hc' hlt' (k := k) (by rw [<- HB.out]; exact hkn)
   have HL := hide (lex_drop hx1.out hy1.out)
   have hge : decide ((n : Int) <= k) = false := by simp; omega
   by_cases hxy : x = y
   ·subst hxy
    have HC := hide (cmpN_eq (rfl : x = x))
    have HL' : Hid (lex (a.drop (k+1)) (b.drop (k+1)) = lex a b) := hide (by rw [<- hx.out, HL.out, if_pos rfl])
    clear HL hx1 hy1
    go_wp2_with (go_at_call 181; refine (compare_calls x x _).mono ?_; rintro e w' ⟨rfl, rfl⟩; rw [HC.out])
    go_round
    case rel => exact ⟨k+1, by omega, by go_num, HL'⟩
    case measure => simp [intOf]; omega
   ·have HL' : Hid (cmpN x y = lex a b) := hide (by rw [<- hx.out, HL.out, if_neg hxy])
    have hne : (cmpN x y != 0) = true := by
     simp; unfold cmpN; split <;> (try split) <;> omega
    clear HL hx1 hy1
    go_wp2_with (go_at_call 181; refine (compare_calls x y _).mono ?_; rintro e w' ⟨rfl, rfl⟩)
    go_ret
    exact ⟨by rw [<- HL'.out]; rfl, rfl⟩
  ·obtain rfl : k = n := by omega
   have h0 : Hid (lex a b = 0) := hide (by
    rw [<- hx.out, List.drop_of_length_le (by rw [<- HN.out]; exact Nat.le_refl _), List.drop_of_length_le (by rw [<- HB.out]; exact Nat.le_refl _)]; rfl)
   go_wp2
   go_ret
   exact ⟨by rw [h0.out]; rfl, rfl⟩
theorem own_other {T : TypeId} {w w' : World} {B : Nat} {v u : Value} {l : List Nat} (h : Own32 T w B v l) (hg : w.grownBy w' u.ownBlock) (hu : ∀ k, v.ownBlock = some k -> ∀ j, u.ownBlock = some j -> k ≠ j) : Own32 T w' B v l := by
 refine ⟨h.1, World.ownsRow.kept h.2 hg ?_⟩
 cases hv : v.ownBlock with
 | none => exact .inl rfl
 | some k => exact .inr fun e => hu k hv k e.symm rfl
theorem own_lt {T : TypeId} {w : World} {B : Nat} {v : Value} {l : List Nat} (h : Own32 T w B v l) : ∀ k, v.ownBlock = some k -> k < w.heap.size := fun k hk => (World.ownsRow.lt h.2 k hk).2
theorem own_ge {T : TypeId} {w : World} {B : Nat} {v : Value} {l : List Nat} (h : Own32 T w B v l) : ∀ k, v.ownBlock = some k -> B <= k := fun k hk => (World.ownsRow.lt h.2 k hk).1
theorem length_limbs_val {l : List Nat} (h : AllLt l) : (limbs (val l)).length <= l.length := length_limbs_le (val_lt h)
theorem lex_limbs (m n : Nat) (h : (limbs m).length = (limbs n).length) : lex (limbs m).reverse (limbs n).reverse = cmpN m n := by
 rw [lex_reverse _ _ h (limbs_lt m) (limbs_lt n), val_limbs, val_limbs]
set_option maxHeartbeats 1000000 in
theorem cmp_calls (w : World) (v u : Value) (a b : List Nat) (h : U32s w v a) (h' : U32s w u b) (ha : a.length <= 2000000000) (hb : b.length <= 2000000000) :
 Calls Tryz.prog 148 #[v, u] w (RetV w (.int .i64 (cmpN (val a) (val b)))) := by
 go_enter Tryz.func148, Tryz.ntmps148
 go_wp2_with fail
 refine (trim_calls _ _ a h ha).mono ?_
 rintro e w1 ⟨v1, rfl, o1, b1⟩
 go_wp2_with fail
 refine (trim_calls _ _ b (h'.later b1) hb).mono ?_
 rintro e w2 ⟨v2, rfl, o2, b2⟩
 have la := length_limbs_val h.1
 have lb := length_limbs_val h'.1
 have o1' := o1.later b2
 obtain ⟨A1, c1, f1, hc1, -⟩ := o1'.reads.form
 obtain ⟨A2, c2, f2, hc2, -⟩ := o2.reads.form
 subst f1 f2
 have hlt1 := own_lt o1
 have hlim := lex_limbs (val a) (val b)
 obtain ⟨n1, hn1⟩ : ∃ n, n = (limbs (val a)).length := ⟨_, rfl⟩
 obtain ⟨n2, hn2⟩ : ∃ n, n = (limbs (val b)).length := ⟨_, rfl⟩
 rw [<- hn1] at la hlim o1' hlt1 o1; rw [<- hn2] at lb hlim o2
 rw [<- hn1, <- hn2]
 have hbig : n1 < n2 -> cmpN (val a) (val b) = -1 := fun hh => cmpN_lt (lt_of_length_lt (by rw [<- hn1, <- hn2]; exact hh))
 have hsml : n2 < n1 -> cmpN (val a) (val b) = 1 := fun hh => cmpN_gt (lt_of_length_lt (by rw [<- hn1, <- hn2]; exact hh))
 have HN1 := hide hn1; have HN2 := hide hn2
 clear hn1 hn2 hc1 hc2
 have bb := b1.trans b2
 rcases Nat.lt_trichotomy n1 n2 with hlt | heq | hgt
 ·have hf := hide (hbig hlt)
  clear hbig hsml hlim
  have t1 : ((n1 : Int) != n2) = true := by simp; omega
  have t2 : decide ((n1 : Int) < n2) = true := by simp; omega
  go_wp2_with fail
  go_ret
  exact ⟨by rw [hf.out]; rfl, bb⟩
 ·have hf := hide (hlim heq)
  subst heq
  clear hbig hsml hlim
  have t1 : ((n1 : Int) != n1) = false := by simp
  go_wp2_with fail
  refine (reverse_own _ _ _ _ (by rw [<- HN1.out]; omega) o1').mono ?_
  rintro e w3 ⟨rfl, p1, g1⟩
  have hge := own_ge o2
  have o2' := own_other o2 g1 (fun k hk j hj => by have := hlt1 j hj; have := hge k hk; omega)
  have b3 : Later w w3 := bb.grown g1 (own_ge o1')
  go_wp2_with fail
  refine (reverse_own _ _ _ _ (by rw [<- HN2.out]; omega) o2').mono ?_
  rintro e w4 ⟨rfl, p2, g2⟩
  have p1' := own_other p1 g2 (fun k hk j hj => by have := hlt1 k hk; have := hge j hj; omega)
  have b4 : Later w w4 := b3.grown g2 (fun k hk => by have := hge k hk; have := b1.size; omega)
  go_wp2_with fail
  refine (compare_slices _ _ _ _ _ p1'.reads p2.reads (by rw [List.length_reverse, <- HN1.out]; omega) (by rw [List.length_reverse, List.length_reverse, <- HN1.out, <- HN2.out])).mono ?_
  rintro e w5 ⟨rfl, rfl⟩
  rw [hf.out]
  go_wp2_with fail
  go_ret
  exact ⟨rfl, b4⟩
 ·have hf := hide (hsml hgt)
  clear hbig hsml hlim
  have t1 : ((n1 : Int) != n2) = true := by simp; omega
  have t2 : decide ((n1 : Int) < n2) = false := by simp; omega
  go_wp2_with fail
  go_ret
  exact ⟨by rw [hf.out]; rfl, bb⟩
end Go.Proofs.YtncbebfhakcgdaaGreat
namespace Go.Proofs.YtncbebfhakcgdaaGreat
open Go.RowKit
theorem val_take_succ (l : List Nat) (k : Nat) : val (l.take (k+1)) = val (l.take k) + 4294967296 ^ k * l.getD k 0 := by
 by_cases h : k < l.length
 ·rw [List.take_succ_eq_append_getElem h, val_append, List.length_take, Nat.min_eq_left (by omega), List.getD_eq_getElem?_getD, List.getElem?_eq_getElem h]; simp
 ·rw [List.take_of_length_le (by omega), List.take_of_length_le (by omega), List.getD_eq_getElem?_getD, List.getElem?_eq_none (by omega)]; simp
theorem val_set_take (l : List Nat) (k v : Nat) (h : k < l.length) : val ((l.set k v).take (k+1)) = val (l.take k) + 4294967296 ^ k * v := by
 rw [val_take_succ, List.take_set, List.getD_eq_getElem?_getD, List.getElem?_set, if_pos rfl, if_pos h]
 rw [List.set_eq_of_length_le (by simp; omega)]; rfl
theorem carry_step (p s u v x y c : Nat) (h : u + p * c = v) (hs : s = c + x + y) : (u + p * (s % 4294967296)) + (p * 4294967296) * (s / 4294967296) = v + p * x + p * y := by
 have := Nat.mod_add_div s 4294967296
 subst hs
 have h2 : p * ((c + x + y) % 4294967296) + (p * 4294967296) * ((c + x + y) / 4294967296) = p * (c + x + y) := by
  rw [Nat.mul_assoc, <- Nat.mul_add, this]
 rw [Nat.mul_add, Nat.mul_add] at h2
 omega
theorem bits32 (a b : Nat) (ha : a < 4294967296) (hb : b < 4294967296) :
 bits .and .u32 a b = ((a &&& b : Nat) : Int) /\ bits .or .u32 a b = ((a ||| b : Nat) : Int) /\ bits .xor .u32 a b = ((a ^^^ b : Nat) : Int) := by
 have wr : ∀ n : Int, 0 <= n -> n < 2 ^ 32 -> IntKind.u32.wrap n = n := by
  intro n h0 h1; simp [IntKind.wrap, IntKind.bits, IntKind.signed]; omega
 have h := bits_nat .u32 32 (Nat.le_refl _) wr a b ha hb
 refine ⟨h.1, h.2, ?_⟩
 have ha' : a % 2 ^ 32 = a := Nat.mod_eq_of_lt ha
 have hb' : b % 2 ^ 32 = b := Nat.mod_eq_of_lt hb
 have e : (BitVec.ofNat 32 a ^^^ BitVec.ofNat 32 b).toNat = a ^^^ b := by
  rw [BitVec.toNat_xor, BitVec.toNat_ofNat, BitVec.toNat_ofNat, ha', hb']
 show IntKind.u32.wrap ((BitVec.ofInt 32 (a : Int) ^^^ BitVec.ofInt 32 (b : Int)).toNat : Int) = _
 rw [BitVec.ofInt_natCast, BitVec.ofInt_natCast, e]
 exact wr _ (Int.natCast_nonneg _) (by exact_mod_cast Nat.xor_lt_two_pow ha hb)
theorem top32 (n : Nat) (h : n < 4294967296) : n / 2147483648 = if n.testBit 31 then 1 else 0 := by
 have e : n.testBit 31 = decide (n / 2147483648 % 2 = 1) := by rw [Nat.testBit_eq_decide_div_mod_eq]
 rw [e]
 by_cases h1 : n / 2147483648 % 2 = 1
 ·rw [decide_eq_true h1]; simp; omega
 ·rw [decide_eq_false h1]; simp; omega
theorem bit31 (n : Nat) (h : n < 4294967296) : n.testBit 31 = decide (2147483648 <= n) := by
 rw [Nat.testBit_eq_decide_div_mod_eq]
 by_cases h1 : 2147483648 <= n
 ·rw [decide_eq_true h1]; simp; omega
 ·rw [decide_eq_false h1]; simp; omega
theorem borrow32 (x y c d : Nat) (hx : x < 4294967296) (hy : y < 4294967296) (hc : c <= 1) (hd : d = (x + 4294967296 - y - c) % 4294967296) :
 (((4294967295 ^^^ x) &&& y) ||| ((4294967295 ^^^ (x ^^^ y)) &&& d)) / 2147483648 = if x < y + c then 1 else 0 := by
 have hdl : d < 4294967296 := by omega
 have l1 : ((4294967295 ^^^ x) &&& y) < 2 ^ 32 := Nat.and_lt_two_pow _ hy
 have l2 : ((4294967295 ^^^ (x ^^^ y)) &&& d) < 2 ^ 32 := Nat.and_lt_two_pow _ hdl
 rw [top32 _ (Nat.or_lt_two_pow l1 l2)]
 have hm : Nat.testBit 4294967295 31 = true := by decide
 rw [Nat.testBit_or, Nat.testBit_and, Nat.testBit_and, Nat.testBit_xor, Nat.testBit_xor, Nat.testBit_xor, hm, bit31 x hx, bit31 y hy, bit31 d hdl]
 by_cases h1 : 2147483648 <= x <;> by_cases h2 : 2147483648 <= y <;> by_cases h3 : 2147483648 <= d <;> by_cases h4 : x < y + c <;> simp [h1, h2, h3, h4] <;> omega
set_option maxHeartbeats 400000 in
theorem add32_calls (x y c : Nat) (hx : x < 4294967296) (hy : y < 4294967296) (hc : c <= 1) (w : World) :
 Calls Tryz.prog 195 #[.int .u32 x, .int .u32 y, .int .u32 c] w fun e w' => e = .returned (.tuple #[.int .u32 ((x + y + c) % 4294967296 : Nat), .int .u32 ((x + y + c) / 4294967296 : Nat)]) /\ w = w' := by
 have h1 : Hid (((x + y + c) % 4294967296 : Nat) = ((x : Int) + y + c) % 4294967296) := hide (by omega)
 have h2 : Hid ((((x + y + c) / 4294967296 : Nat) : Int) = ((x : Int) + y + c) / 4294967296) := hide (by omega)
 go_enter Tryz.func195, Tryz.ntmps195
 go_wp2
 go_ret2
 refine ⟨?_, rfl⟩
 rw [h1.out, h2.out]; rfl
set_option maxHeartbeats 400000 in
theorem sub32_calls (x y c d o : Nat) (hx : x < 4294967296) (hy : y < 4294967296) (hc : c <= 1) (w : World) (hd : (x + 4294967296 - y - c) % 4294967296 = d) (ho : (if x < y + c then 1 else 0) = o) :
 Calls Tryz.prog 193 #[.int .u32 x, .int .u32 y, .int .u32 c] w fun e w' => e = .returned (.tuple #[.int .u32 (d : Int), .int .u32 (o : Int)]) /\ w = w' := by
 have HB := hide (borrow32 x y c d hx hy hc hd.symm)
 have HD := hide hd; have HO := hide ho; clear hd ho
 go_enter Tryz.func193, Tryz.ntmps193
 go_wp2
 go_ret2
 refine ⟨?_, rfl⟩
 have hdi : ((x : Int) - y - c) % 4294967296 = (d : Int) := by have := HD.out; omega
 have hmx : IntKind.u32.max = ((4294967295 : Nat) : Int) := rfl
 have hdl : d < 4294967296 := by have := HD.out; omega
 have e1 := (bits32 4294967295 x (by omega) hx).2.2
 have e2 := (bits32 _ y (Nat.xor_lt_two_pow (n := 32) (by omega : 4294967295 < 2 ^ 32) hx) hy).1
 have e3 := (bits32 x y hx hy).2.2
 have e4 := (bits32 4294967295 _ (by omega) (Nat.xor_lt_two_pow (n := 32) hx hy)).2.2
 have e5 := (bits32 _ d (Nat.xor_lt_two_pow (n := 32) (by omega : 4294967295 < 2 ^ 32) (Nat.xor_lt_two_pow (n := 32) hx hy)) hdl).1
 have e6 := (bits32 ((4294967295 ^^^ x) &&& y) ((4294967295 ^^^ (x ^^^ y)) &&& d) (Nat.and_lt_two_pow (n := 32) _ hy) (Nat.and_lt_two_pow (n := 32) _ hdl)).2.1
 show Ending.returned (.tuple #[.int .u32 (((x : Int) - y - c) % 4294967296), .int .u32 ((bits BinOp.or IntKind.u32 (bits BinOp.and IntKind.u32 (bits BinOp.xor IntKind.u32 IntKind.u32.max ↑x) ↑y) (bits BinOp.and IntKind.u32 (bits BinOp.xor IntKind.u32 IntKind.u32.max (bits BinOp.xor IntKind.u32 ↑x ↑y)) (((x : Int) - y - c) % 4294967296))) / 2147483648)]) = _
 rw [hdi, hmx, e1, e2, e3, e4, e5, e6]
 have e7 : ((((4294967295 ^^^ x) &&& y ||| (4294967295 ^^^ (x ^^^ y)) &&& d : Nat) : Int)) / 2147483648 = (o : Int) := by
  rw [<- HO.out, <- HB.out]; omega
 rw [e7]
end Go.Proofs.YtncbebfhakcgdaaGreat
namespace Go.Proofs.YtncbebfhakcgdaaGreat
open Go.RowKit
theorem limb_calls' (w : World) (v : Value) (l : List Nat) (i x : Nat) (h : U32s w v l) (hi : i <= 4000000000) (hx : l.getD i 0 = x) :
 Calls Tryz.prog 192 #[v, .int .i64 i] w fun e w' => e = .returned (.int .u64 x) /\ w = w' := by
 subst hx; exact limb_calls w v l h i hi
theorem getD_lt {l : List Nat} (h : AllLt l) (i : Nat) : l.getD i 0 < 4294967296 := by
 rw [List.getD_eq_getElem?_getD]
 cases hx : l[i]? with
 | none => simp
 | some x => simpa using h.at_ hx
theorem row_set {w : World} {g k x : Nat} {T : TypeId} {o : List Nat} {q : IntKind} (h : Row w g T (nums q o)) : Row (w.setCell ⟨g, k, none⟩ (.int q (x : Int))) g T (nums q (o.set k x)) := by
 rw [nums_set]; exact h.set_ k _
theorem row_cell {w : World} {g k : Nat} {T : TypeId} {o : List Nat} {q : IntKind} (h : Row w g T (nums q o)) (hk : k < o.length) : ∃ x : Nat, Hid (o[k]? = some x) /\ w.cell? ⟨g, k, none⟩ = some (.int q (x : Int)) /\ w.frozen? ⟨g, k, none⟩ = false := by
 obtain ⟨x, hx, hu⟩ := nums_at (q := q) hk
 exact ⟨x, hx, h.cell hu, h.frozen k⟩
theorem add_done {a b o : List Nat} {n c : Nat} (hn : n = max a.length b.length) (ho : o.length = n + 1) (h : val (o.take n) + 4294967296 ^ n * c = val (a.take n) + val (b.take n)) : val (o.set n c) = val a + val b := by
 have h1 := val_set_take o n c (by omega)
 rw [List.take_of_length_le (by simp; omega)] at h1
 rw [List.take_of_length_le (l := a) (i := n) (by omega), List.take_of_length_le (l := b) (i := n) (by omega)] at h
 omega
set_option maxHeartbeats 1000000 in
theorem add_calls (w : World) (v u : Value) (a b : List Nat) (h : U32s w v a) (h' : U32s w u b) (ha : a.length <= 1000000000) (hb : b.length <= 1000000000) :
 Calls Tryz.prog 182 #[v, u] w (Ret w fun w' v' => Own32 160 w' w.heap.size v' (limbs (val a + val b))) := by
 have H1 := hide h; have H2 := hide h'
 obtain ⟨A, cap, hv, -⟩ := h.form
 obtain ⟨A', cap', hu, -⟩ := h'.form
 subst hv hu
 clear h h'
 obtain ⟨na, hna⟩ : ∃ na, na = a.length := ⟨_, rfl⟩
 obtain ⟨nb, hnb⟩ : ∃ nb, nb = b.length := ⟨_, rfl⟩
 obtain ⟨n, hn⟩ : ∃ n, n = max a.length b.length := ⟨_, rfl⟩
 rw [<- hna, <- hnb]
 have hn9 : n <= 1000000000 := by omega
 have HN := hide hn
 have hcase : (na < nb /\ n = nb) ∨ (nb < na + 1 /\ n = na) := by omega
 clear hn
 have HNA := hide hna; have HNB := hide hnb; clear hna hnb
 rw [<- HNA.out] at H1; rw [<- HNB.out] at H2
 rcases hcase with ⟨hle, he⟩ | ⟨hle, he⟩
 all_goals
  subst he
  go_enter Tryz.func182, Tryz.ntmps182
  go_wp2_with (at_make; refine wpList_make_row rfl (.tmp 15) (.tmp 15) _ rfl 160 (.int .u32 0) 4 Tryz.underlying63 info_u32 rfl _ _ _ _ (n+1) rfl rfl (Int.natCast_succ _).symm (Int.natCast_succ _).symm (by omega) (by unfold maxLen; omega) ?_; intro g w1 hg1 hr1 hb1)
  rw [<- nums_replicate] at hr1
  go_loopw [18, 7] (fun i c wr => ∃ k cc o, k <= n /\ cc <= 1 /\ i = .int .i64 ((k : Nat) : Int) /\ c = .int .u64 ((cc : Nat) : Int) /\ Hid (o.length = n + 1 /\ AllLt o /\ val (o.take k) + 4294967296 ^ k * cc = val (a.take k) + val (b.take k)) /\ Row wr g 160 (nums .u32 o) /\ Later w wr) (fun i _ _ => (n - intOf i).toNat)
  case atStart => exact ⟨0, 0, _, by omega, by omega, rfl, rfl, hide ⟨by simp, AllLt.replicate _, by simp⟩, hr1, hb1⟩
  case round =>
   obtain ⟨k, cc, o, hk, hcc, rfl, rfl, ho, hr, hb⟩ := hrel
   by_cases hkn : k < n
   ·obtain ⟨x, hx⟩ : ∃ x, a.getD k 0 = x := ⟨_, rfl⟩
    obtain ⟨y, hy⟩ : ∃ y, b.getD k 0 = y := ⟨_, rfl⟩
    have hxl : x < 4294967296 := hx ▸ getD_lt H1.out.1 k
    have hyl : y < 4294967296 := hy ▸ getD_lt H2.out.1 k
    have HX := hide hx; have HY := hide hy; clear hx hy
    obtain ⟨z, -, hzc, hzf⟩ := row_cell hr (k := k) (by rw [ho.out.1]; omega)
    go_wp2_with (first
     | ((with_reducible refine (limb_calls' _ _ a k x (H1.out.later hb) (by omega) HX.out).mono ?_); rintro e w' ⟨rfl, rfl⟩)
     | ((with_reducible refine (limb_calls' _ _ b k y (H2.out.later hb) (by omega) HY.out).mono ?_); rintro e w' ⟨rfl, rfl⟩))
    go_roundw
    case rel =>
     refine ⟨k+1, (cc + x + y) / 4294967296, o.set k ((cc + x + y) % 4294967296), by omega, by omega, by go_num, by go_num, hide ⟨by simp [ho.out.1], ho.out.2.1.set _ _ (by omega), ?_⟩, ?_, hb.setCell (p := ⟨g, k, none⟩) hg1 _⟩
     ·rw [val_set_take _ _ _ (by rw [ho.out.1]; omega), Nat.pow_succ, carry_step _ _ _ _ x y cc ho.out.2.2 rfl, val_take_succ, val_take_succ, HX.out, HY.out]; omega
     ·have e : (((cc : Int) + (x + y)) % 4294967296) = (((cc + x + y) % 4294967296 : Nat) : Int) := by omega
      rw [e]; exact row_set hr
    case measure => simp [intOf]; omega
   ·obtain rfl : k = n := by omega
    obtain ⟨z, -, hzc, hzf⟩ := row_cell hr (k := k) (by rw [ho.out.1]; omega)
    have HD := hide (add_done HN.out ho.out.1 ho.out.2.2)
    have hr' := row_set (x := cc) (k := k) hr
    have ht : Later w (wr.setCell ⟨g, k, none⟩ (.int .u32 (cc : Int))) := hb.setCell (p := ⟨g, k, none⟩) hg1 _
    have ho2 : Own32 160 (wr.setCell ⟨g, k, none⟩ (.int .u32 (cc : Int))) w.heap.size (.slice (some ⟨g, 0, none⟩) (k+1) (k+1)) (o.set k cc) := ⟨ho.out.2.1.set _ _ (by omega), OwnNums.of_row hr' hg1 (by simp [ho.out.1]) (by unfold maxLen; omega)⟩
    have HO := hide ho2; clear ho2 hr'
    have HL := hide (show (o.set k cc).length <= 2000000000 by simp [ho.out.1]; omega)
    have HT := hide ht; clear ht
    go_wp2_with ((with_reducible refine (trim_calls _ _ _ HO.out.reads HL.out).mono ?_); rintro e w' ⟨v', rfl, ov, bv⟩)
    go_ret
    exact ⟨_, rfl, by rw [<- HD.out]; exact ov.weaken HT.out.size, HT.out.trans bv⟩
end Go.Proofs.YtncbebfhakcgdaaGreat
namespace Go.Proofs.YtncbebfhakcgdaaGreat
open Go.RowKit
theorem wpList_make_u32 {w : World} {ops : Array Oper} {rest : List Oper} {o : Oper} {a : Act} {Q : Exit -> Act -> World -> Prop}
 (hg : o.guard = none) (l : Operand) (hop : o.op = Op.makeSlice 63 l l) (L : Int) (n : Nat) (hl : a.eval l = .int .i64 L) (hL : L = (n : Int)) (b2 : n <= 4000000000)
 (hK : ∀ g w', w.heap.size <= g -> Row w' g 160 (nums .u32 (List.replicate n 0)) -> Later w w' -> wpList Tryz.prog ops Q rest (a.put o.dst (.slice (some ⟨g, 0, none⟩) n n)) w') :
 wpList Tryz.prog ops Q (o :: rest) a w :=
 wpList_make_row hg l l _ hop 160 (.int .u32 0) 4 Tryz.underlying63 info_u32 rfl .i64 .i64 L L n hl hl hL hL (by omega) (by unfold maxLen; omega) (fun g w' h1 h2 h3 => hK g w' h1 (by rw [nums_replicate]; exact h2) h3)
theorem wrap_u32 {y : Nat} (h : y < 4294967296) : IntKind.u32.wrap (y : Int) = y := by simp [IntKind.wrap, IntKind.bits, IntKind.signed]; omega
theorem borrow_step (p t u v x y c : Nat) (h : u + v = t + p * c) (hx : x < 4294967296) (hy : y < 4294967296) (hc : c <= 1) :
 (u + p * ((x + 4294967296 - y - c) % 4294967296)) + (v + p * y) = (t + p * x) + (p * 4294967296) * (if x < y + c then 1 else 0) := by
 by_cases hb : x < y + c
 ·rw [if_pos hb]
  have e : (x + 4294967296 - y - c) % 4294967296 = x + 4294967296 - y - c := by omega
  have e2 : x + 4294967296 - y - c + y + c = x + 4294967296 := by omega
  rw [e]
  have h2 : p * (x + 4294967296 - y - c) + p * y + p * c = p * x + p * 4294967296 := by
   rw [<- Nat.mul_add, <- Nat.mul_add, e2, Nat.mul_add]
  omega
 ·rw [if_neg hb]
  have e : (x + 4294967296 - y - c) % 4294967296 = x - y - c := by omega
  have e2 : x - y - c + y + c = x := by omega
  rw [e]
  have h2 : p * (x - y - c) + p * y + p * c = p * x := by
   rw [<- Nat.mul_add, <- Nat.mul_add, e2]
  omega
theorem sub_done {a b o : List Nat} {n c : Nat} (ho : o.length = n) (hn : n = a.length) (hle : val b <= val a) (hb : val b < 4294967296 ^ n -> val (b.take n) = val b) (hoa : AllLt o) (haa : AllLt a)
 (h : val (o.take n) + val (b.take n) = val (a.take n) + 4294967296 ^ n * c) : val o = val a - val b := by
 have h1 := val_lt haa
 rw [<- hn] at h1
 have h2 := hb (by omega)
 have h3 := val_lt hoa
 rw [ho] at h3
 rw [List.take_of_length_le (l := o) (i := n) (by omega), List.take_of_length_le (l := a) (i := n) (by omega), h2] at h
 have h4 : c = 0 := by
  rcases Nat.eq_zero_or_pos c with h4 | h4
  ·exact h4
  ·have := Nat.mul_le_mul_left (4294967296 ^ n) h4
   omega
 subst h4
 omega
theorem take_of_lt {b : List Nat} {n : Nat} (h : val b < 4294967296 ^ n) : val (b.take n) = val b := by
 by_cases hn : n <= b.length
 ·have h1 := val_take_drop b n hn
  rcases Nat.eq_zero_or_pos (val (b.drop n)) with h2 | h2
  ·rw [h1, h2]; simp
  ·have := Nat.mul_le_mul_left (4294967296 ^ n) h2
   omega
 ·rw [List.take_of_length_le (by omega)]
set_option maxHeartbeats 1000000 in
theorem sub_calls (w : World) (v u : Value) (a b : List Nat) (h : U32s w v a) (h' : U32s w u b) (ha : a.length <= 1000000000) (hb : b.length <= 1000000000) (hle : val b <= val a) :
 Calls Tryz.prog 183 #[v, u] w (Ret2 w fun w' v' t => t = .bool true /\ Own32 160 w' w.heap.size v' (limbs (val a - val b))) := by
 have H2 := hide h'
 have HC := hide (cmp_calls w v u a b h h' (by omega) (by omega))
 obtain ⟨A, cap, rfl, hcap, hcm, hlt, hc⟩ := h.form
 have HH := hide h
 clear h h'
 obtain ⟨n, hn⟩ : ∃ n, n = a.length := ⟨_, rfl⟩
 rw [<- hn] at HC HH hcap ha; rw [<- hn]
 have HN := hide hn; clear hn
 have hcn : decide (cmpN (val a) (val b) < 0) = false := by rw [decide_eq_false_iff_not, cmpN_neg]; omega
 go_enter Tryz.func183, Tryz.ntmps183
 go_wp2_with fail
 refine HC.out.mono ?_
 rintro e w1 ⟨rfl, hb1⟩
 go_wp2_with (at_make; refine wpList_make_u32 rfl (.tmp 14) rfl _ n rfl rfl (by omega) ?_; intro g w2 hg2 hr2 hb2)
 have hb12 := hb1.trans hb2
 go_loopw [18, 7] (fun i c wr => ∃ k cc o, k <= n /\ cc <= 1 /\ i = .int .i64 ((k : Nat) : Int) /\ c = .int .u32 ((cc : Nat) : Int) /\ Hid (o.length = n /\ AllLt o /\ val (o.take k) + val (b.take k) = val (a.take k) + 4294967296 ^ k * cc) /\ Row wr g 160 (nums .u32 o) /\ Later w wr) (fun i _ _ => (n - intOf i).toNat)
 case atStart => exact ⟨0, 0, _, by omega, by omega, rfl, rfl, hide ⟨by simp, AllLt.replicate _, by simp⟩, hr2, hb12⟩
 case round =>
  obtain ⟨k, cc, o, hk, hcc, rfl, rfl, ho, hr, hb⟩ := hrel
  by_cases hkn : k < n
  ·obtain ⟨b1, o1, x, rfl, hx, hxl, hcx0⟩ := limb_at hc hlt (k := k) (by rw [<- HN.out]; exact hkn)
   have hcx := hb.cell hcx0
   have hb1g : b1 < g := by have h1 := World.block_lt_of_cell? w _ hcx0; have h2 := hb1.size; simp at h1; omega
   clear hcx0
   obtain ⟨y, hy⟩ : ∃ y, b.getD k 0 = y := ⟨_, rfl⟩
   have hyl : y < 4294967296 := hy ▸ getD_lt H2.out.1 k
   have HY := hide hy; clear hy
   obtain ⟨z, -, hzc, hzf⟩ := row_cell hr (k := k) (by rw [ho.out.1]; omega)
   obtain ⟨d, hd⟩ : ∃ d, (x + 4294967296 - y - cc) % 4294967296 = d := ⟨_, rfl⟩
   obtain ⟨bo, hbo⟩ : ∃ bo, (if x < y + cc then 1 else 0) = bo := ⟨_, rfl⟩
   have hbol : bo <= 1 := by rw [<- hbo]; split <;> omega
   have hdl : d < 4294967296 := by omega
   have HDD := hide hd; have HBO := hide hbo; clear hd hbo
   have hge := hide (hg2)
   have hwy := wrap_u32 hyl
   have hst : ∀ u, (wr.setCell ⟨g, k, none⟩ u).drew.cell? ⟨b1, o1 + k, none⟩ = some (.int .u32 (x : Int)) := fun u => (World.cell?_setCell_other wr ⟨g, k, none⟩ ⟨b1, o1 + k, none⟩ u (by intro e; injection e with e1; omega)).trans hcx
   have HST := hide hst; clear hst
   go_wp2_with fail
   go_region_held3 (fun w' => w'.cell? ⟨b1, o1 + k, none⟩ = some (.int .u32 (x : Int))) (first | exact hcx | exact HST.out _ | (simp [go_sem, hcx]; done)) (first
    | ((with_reducible refine (limb_calls' _ _ b k y (H2.out.later hb) (by omega) HY.out).mono ?_); rintro e w' ⟨rfl, rfl⟩)
    | ((with_reducible refine (limb_calls' _ _ b k y (H2.out.later (hb.drew)) (by omega) HY.out).mono ?_); rintro e w' ⟨rfl, rfl⟩)
    | ((with_reducible refine (sub32_calls x y cc d bo hxl hyl hcc _ HDD.out HBO.out).mono ?_); rintro e w' ⟨rfl, rfl⟩))
   clear hwy
   go_wp2_with fail
   go_roundw
   case rel =>
    refine ⟨k+1, bo, o.set k d, by omega, hbol, by go_num, rfl, hide ⟨by simp [ho.out.1], ho.out.2.1.set _ _ hdl, ?_⟩, Row.drew (row_set hr), (hb.setCell (p := ⟨g, k, none⟩) (Nat.le_trans hb1.size hg2) _).drew⟩
    have hxg : a.getD k 0 = x := by rw [List.getD_eq_getElem?_getD, hx.out]; rfl
    rw [val_set_take _ _ _ (by rw [ho.out.1]; omega), Nat.pow_succ, val_take_succ, val_take_succ, hxg, HY.out, <- HDD.out, <- HBO.out]
    exact borrow_step _ _ _ _ x y cc ho.out.2.2 hxl hyl hcc
   case measure => simp [intOf]; omega
  ·obtain rfl : k = n := by omega
   have HD := hide (sub_done ho.out.1 HN.out hle take_of_lt ho.out.2.1 hlt ho.out.2.2)
   have HO := hide (show Own32 160 wr w.heap.size (.slice (some ⟨g, 0, none⟩) k k) o from ⟨ho.out.2.1, OwnNums.of_row hr (Nat.le_trans hb1.size hg2) ho.out.1 (by unfold maxLen; omega)⟩)
   have HL := hide (show o.length <= 2000000000 by rw [ho.out.1]; omega)
   have HT := hide hb
   clear hr ho
   go_wp2_with ((with_reducible refine (trim_calls _ _ _ HO.out.reads HL.out).mono ?_); rintro e w' ⟨v', rfl, ov, bv⟩)
   go_ret2
   exact ⟨_, _, rfl, ⟨rfl, by rw [<- HD.out]; exact ov.weaken HT.out.size⟩, HT.out.trans bv⟩
set_option maxHeartbeats 400000 in
theorem sub_less (w : World) (v u : Value) (a b : List Nat) (h : U32s w v a) (h' : U32s w u b) (ha : a.length <= 1000000000) (hb : b.length <= 1000000000) (hlt : val a < val b) :
 Calls Tryz.prog 183 #[v, u] w (Ret2 w fun w' v' t => t = .bool false /\ v' = .slice none 0 0) := by
 have HC := hide (cmp_calls w v u a b h h' (by omega) (by omega))
 have hcn : decide (cmpN (val a) (val b) < 0) = true := by rw [decide_eq_true_iff, cmpN_neg]; omega
 go_enter Tryz.func183, Tryz.ntmps183
 go_wp2_with fail
 refine HC.out.mono ?_
 rintro e w1 ⟨rfl, hb1⟩
 go_wp2_with fail
 go_ret2
 exact ⟨_, _, rfl, ⟨rfl, rfl⟩, hb1⟩
end Go.Proofs.YtncbebfhakcgdaaGreat
