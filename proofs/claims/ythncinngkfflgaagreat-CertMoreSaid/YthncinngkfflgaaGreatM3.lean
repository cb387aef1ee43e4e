import Derived.Test.YthncinngkfflgaaGreatM2
import Derived.RangeFuncBox
import Derived.RangeFuncNested
import Derived.RangeFuncBound
import Derived.RangeFuncCalls
import Derived.RangeFuncLeaves
import Derived.Shelf.Abstract
import Derived.Shelf.RegionOpen
import Derived.OwnWalkIn
import Derived.TacticsInMore
import Derived.LoopNIn
import Derived.LoopIn
import Derived.OrdersHeld
import Derived.Deep.RegionHeld3
import Derived.Test.YthncinngkfflgaaGreatM1

/- The plain law of long division: no program is run here. -/
set_option linter.unusedVariables false
set_option linter.unusedSimpArgs false
set_option maxRecDepth 100000
namespace Go.Proofs.YthncinngkfflgaaGreat
open Go.RowKit

theorem bitLen_range : ∀ (k x : Nat), x < 2 ^ k → k ≤ 32 → 0 < x → 2 ^ (Lib.bitLen x - 1) ≤ x ∧ x < 2 ^ Lib.bitLen x ∧ 0 < Lib.bitLen x ∧ Lib.bitLen x ≤ k := by
  intro k
  induction k with
  | zero => intro x h _ h0; simp at h; omega
  | succ k ih =>
    intro x h hk h0
    have h32 : 2 ^ (k+1) ≤ 2 ^ 32 := Nat.pow_le_pow_right (by omega) hk
    have hb := Lib.bitLen_half x (by omega) (by omega)
    by_cases h1 : x / 2 = 0
    · have hx : x = 1 := by omega
      subst hx
      rw [hb]
      have : Lib.bitLen (1 / 2) = 0 := by decide
      rw [this]; simp
    · obtain ⟨i1, i2, i3, i4⟩ := ih (x / 2) (by rw [Nat.pow_succ] at h; omega) (by omega) (by omega)
      rw [hb]
      have e1 : 1 + Lib.bitLen (x / 2) - 1 = (Lib.bitLen (x / 2) - 1) + 1 := by omega
      have e2 : 1 + Lib.bitLen (x / 2) = Lib.bitLen (x / 2) + 1 := by omega
      rw [e1, e2, Nat.pow_succ, Nat.pow_succ]
      omega

/-- how far a limb that isn't 0 is shifted -/
theorem lead_range {x s : Nat} (h0 : 0 < x) (h : x < 4294967296) (hs : s = 32 - Lib.bitLen x) : s < 32 ∧ 2147483648 ≤ x * 2 ^ s ∧ (x + 1) * 2 ^ s ≤ 4294967296 := by
  obtain ⟨h1, h2, h3, h4⟩ := bitLen_range 32 x h (Nat.le_refl _) h0
  subst hs
  refine ⟨by omega, ?_, ?_⟩
  · have := Nat.mul_le_mul_right (2 ^ (32 - Lib.bitLen x)) h1
    rw [← Nat.pow_add] at this
    have e : Lib.bitLen x - 1 + (32 - Lib.bitLen x) = 31 := by omega
    rw [e] at this; exact this
  · have := Nat.mul_le_mul_right (2 ^ (32 - Lib.bitLen x)) (show x + 1 ≤ 2 ^ Lib.bitLen x from h2)
    rw [← Nat.pow_add] at this
    have e : Lib.bitLen x + (32 - Lib.bitLen x) = 32 := by omega
    rw [e] at this; exact this

/-- a limb, out of the number -/
theorem val_drop (l : List Nat) (k : Nat) (h : AllLt l) : val (l.drop k) = val l / 4294967296 ^ k := by
  by_cases hk : k ≤ l.length
  · have h1 := val_take_drop l k hk
    have h2 := val_lt (h.take k)
    rw [List.length_take, Nat.min_eq_left hk] at h2
    rw [h1, Nat.add_comm, Nat.mul_add_div (Nat.pow_pos (by omega)), Nat.div_eq_of_lt h2, Nat.add_zero]
  · have h2 := val_lt h
    have h3 : 4294967296 ^ l.length ≤ 4294967296 ^ k := Nat.pow_le_pow_right (by omega) (by omega)
    rw [List.drop_of_length_le (by omega), Nat.div_eq_of_lt (by omega)]; rfl
theorem drop_cons {l : List Nat} {k x : Nat} (hx : l[k]? = some x) : val (l.drop k) = x + 4294967296 * val (l.drop (k+1)) := by
  obtain ⟨h, rfl⟩ := List.getElem?_eq_some_iff.1 hx
  rw [List.drop_eq_getElem_cons h]; rfl
theorem stretch_drop (l : List Nat) (j k : Nat) (h : j + k ≤ l.length) : val (l.drop j) = val (stretch l j k) + 4294967296 ^ k * val (l.drop (j + k)) := by
  unfold stretch
  rw [val_take_drop (l.drop j) k (by simp; omega), List.drop_drop]

/-- the guess is the quotient's limb, or one more -/
theorem guess_range {W V T W3 p q : Nat} (hp : 0 < p) (hT : T * p ≤ V) (hT2 : V < (T + 1) * p) (hW : W3 * p ≤ W) (hW2 : W < (W3 + 1) * p) (hWV : W < 4294967296 * V) (hTb : 4294967296 ≤ T)
    (hl : ∀ t, t < 4294967296 → t * T ≤ W3 → t ≤ q) (hm : q ≤ 4294967296) (hu : q * T ≤ W3) : W / V ≤ q ∧ q ≤ W / V + 1 := by
  have hV : 0 < V := by
    rcases Nat.eq_zero_or_pos V with h | h
    · subst h; omega
    · exact h
  have hq : W / V < 4294967296 := Nat.div_lt_of_lt_mul (by rw [Nat.mul_comm]; exact hWV)
  have hd := Nat.div_mul_le_self W V
  constructor
  · refine hl _ hq ?_
    have h1 : W / V * T * p ≤ W / V * V := by rw [Nat.mul_assoc]; exact Nat.mul_le_mul_left _ hT
    have h2 : W / V * T * p < (W3 + 1) * p := Nat.lt_of_le_of_lt (Nat.le_trans h1 hd) hW2
    have h3 := Nat.lt_of_mul_lt_mul_right h2
    omega
  · refine Classical.byContradiction fun hn => ?_
    have hlt : W / V + 1 < q := Nat.lt_of_not_le hn
    have hpos : 0 < q := Nat.lt_of_le_of_lt (Nat.zero_le _) hlt
    obtain ⟨r, hr⟩ : ∃ r, q = r + 1 := ⟨q - 1, by omega⟩
    have hlr : W / V + 1 ≤ r := by rw [hr] at hlt; exact Nat.le_of_lt_succ hlt
    have h1 : W < (W / V + 1) * V := by
      have := Nat.lt_div_mul_add (a := W) hV
      rw [Nat.add_mul, Nat.one_mul]; exact this
    have h2 : (W / V + 1) * V ≤ r * V := Nat.mul_le_mul_right _ hlr
    have h3 : r * V ≤ r * ((T + 1) * p) := Nat.mul_le_mul_left _ (Nat.le_of_lt hT2)
    have h4 : q * T * p ≤ W3 * p := Nat.mul_le_mul_right _ hu
    have h5 : q * T * p < r * ((T + 1) * p) := Nat.lt_of_le_of_lt (Nat.le_trans h4 hW) (Nat.lt_of_lt_of_le h1 (Nat.le_trans h2 h3))
    rw [← Nat.mul_assoc] at h5
    have h6 := Nat.lt_of_mul_lt_mul_right h5
    rw [hr, Nat.add_mul, Nat.one_mul, Nat.mul_add, Nat.mul_one] at h6
    omega

/-- between two limbs of the quotient -/
structure LongInv (U V na n : Nat) (ul ql : List Nat) (m : Nat) : Prop where
  ulen : ul.length = na + 1
  ult : AllLt ul
  qlen : ql.length = na - n + 1
  qlt : AllLt ql
  sum : val ul + V * (4294967296 ^ m * val (ql.drop m)) = U
  small : val (ul.drop m) < V

theorem same_val {l o : List Nat} {j k : Nat} (h : Same l o j k) (hk : j + k ≤ l.length) {X Y : Nat} (hX : val (stretch l j k) = X) (hY : val (stretch o j k) = Y) : val o + 4294967296 ^ j * X = val l + 4294967296 ^ j * Y := by
  have h1 := val_take_drop l j (by omega)
  have h2 := val_take_drop o j (by rw [h.len]; omega)
  rw [stretch_drop l j k hk, hX, Nat.mul_add] at h1
  rw [stretch_drop o j k (by rw [h.len]; omega), hY, h.low, h.high, Nat.mul_add] at h2
  omega

theorem long_arith {o ul U P X Y Z R : Nat} (h1 : o + P * X = ul + P * Y) (h3 : ul + R = U) (e2 : X = Y + Z) : o + (P * Z + R) = U := by
  subst e2; rw [Nat.mul_add] at h1; omega
theorem rest_zero {d st r P B V : Nat} (hsd : d = st + P * r) (hd : d < B * V) (hP : B * V ≤ P) : r = 0 := by
  rcases Nat.eq_zero_or_pos r with h0 | h0
  · exact h0
  · have h1 := Nat.mul_le_mul_left P h0
    omega

theorem sub_div_lt (X : Nat) {V : Nat} (h : 0 < V) : X - X / V * V < V := by
  have h1 := Nat.mod_lt X h
  have h2 := Nat.div_add_mod' X V
  generalize X / V * V = Y at *
  omega
theorem head_lt {d x r V : Nat} (h : d = x + 4294967296 * r) (hx : x < 4294967296) (hr : r < V) : d < 4294967296 * V := by omega

/-- one limb of the quotient -/
theorem LongInv.step {U V na n j : Nat} {ul ql o : List Nat} {X : Nat} (h : LongInv U V na n ul ql (j+1)) (hn : n ≤ na) (hj : j + n ≤ na) (hV : V < 4294967296 ^ n) (hX : X = val (stretch ul j (n+1)))
    (hs : Same ul o j (n+1)) (hv : val (stretch o j (n+1)) = X - X / V * V) : X < 4294967296 * V ∧ LongInv U V na n o (ql.set j (X / V)) j := by
  have hV0 : 0 < V := by have := h.small; omega
  have hu := h.ulen
  obtain ⟨x, hx⟩ : ∃ x, ul[j]? = some x := ⟨ul[j]'(by omega), List.getElem?_eq_getElem (by omega)⟩
  have hxl := h.ult.at_ hx
  have hW := drop_cons hx
  have hsm := h.small
  have hWV : val (ul.drop j) < 4294967296 * V := head_lt hW hxl hsm
  have hsd := stretch_drop ul j (n+1) (by omega)
  have hrest : val (ul.drop (j + (n+1))) = 0 :=
    rest_zero hsd hWV (by rw [Nat.pow_succ, Nat.mul_comm]; exact Nat.mul_le_mul_right _ (Nat.le_of_lt hV))
  rw [hrest, Nat.mul_zero, Nat.add_zero, ← hX] at hsd
  rw [hsd] at hWV
  have hq : X / V < 4294967296 := Nat.div_lt_of_lt_mul (by rw [Nat.mul_comm]; exact hWV)
  have hle := Nat.div_mul_le_self X V
  have hod : val (o.drop j) = X - X / V * V := by
    rw [stretch_drop o j (n+1) (by rw [hs.len]; omega), hv, hs.high, hrest, Nat.mul_zero, Nat.add_zero]
  refine ⟨hWV, by rw [hs.len, hu], hs.lt, by simp [h.qlen], h.qlt.set _ _ hq, ?_, ?_⟩
  · have h1 := same_val hs (by omega) hX.symm hv
    have h2 : val ((ql.set j (X / V)).drop j) = X / V + 4294967296 * val (ql.drop (j+1)) := by
      have hjq : j < ql.length := by rw [h.qlen]; omega
      rw [drop_cons (x := X / V) (by simp [hjq]), List.drop_set_of_lt (by omega)]
    have h3 := h.sum
    rw [h2]
    have e1 : V * (4294967296 ^ j * (X / V + 4294967296 * val (ql.drop (j+1)))) = 4294967296 ^ j * (X / V * V) + V * (4294967296 ^ (j+1) * val (ql.drop (j+1))) := by
      rw [Nat.mul_add, Nat.mul_add, Nat.pow_succ]
      congr 1
      · rw [Nat.mul_comm V, Nat.mul_assoc]
      · rw [Nat.mul_assoc]
    rw [e1]
    exact long_arith h1 h3 (Nat.sub_add_cancel hle).symm
  · rw [hod]; exact sub_div_lt X hV0

theorem LongInv.bound {U V na n j : Nat} {ul ql : List Nat} (h : LongInv U V na n ul ql (j+1)) (hj : j + n ≤ na) : val (stretch ul j (n+1)) < 4294967296 * V := by
  have hu := h.ulen
  obtain ⟨x, hx⟩ : ∃ x, ul[j]? = some x := ⟨ul[j]'(by omega), List.getElem?_eq_getElem (by omega)⟩
  have hWV := head_lt (drop_cons hx) (h.ult.at_ hx) h.small
  have hsd := stretch_drop ul j (n+1) (by omega)
  exact Nat.lt_of_le_of_lt (by rw [hsd]; exact Nat.le_add_right _ _) hWV
theorem LongInv.done {U V na n : Nat} {ul ql : List Nat} (h : LongInv U V na n ul ql 0) : val ql = U / V ∧ val ul = U % V := by
  have h1 := h.sum
  have h2 := h.small
  simp only [List.drop_zero, Nat.pow_zero, Nat.one_mul] at h1 h2
  have hV : 0 < V := by omega
  constructor
  · rw [← h1, Nat.add_mul_div_left _ _ hV, Nat.div_eq_of_lt h2, Nat.zero_add]
  · rw [← h1, Nat.add_mul_mod_self_left, Nat.mod_eq_of_lt h2]

theorem scaled_div {m d p : Nat} (hp : 0 < p) : m * p / (d * p) = m / d ∧ m * p % (d * p) = (m % d) * p :=
  ⟨Nat.mul_div_mul_right _ _ hp, Nat.mul_mod_mul_right _ _ _⟩

/-- the rest, shifted back -/
structure Unshift (R s n : Nat) (o : List Nat) (k : Nat) : Prop where
  len : o.length = n
  lt : AllLt o
  sum : val (o.take k) = R % 4294967296 ^ k
theorem Unshift.start (R s n : Nat) : Unshift R s n (List.replicate n 0) 0 := ⟨by simp, AllLt.replicate _, by simp [Nat.mod_one]⟩
theorem mod_pow_succ (R k : Nat) : R % 4294967296 ^ (k+1) = R % 4294967296 ^ k + 4294967296 ^ k * (R / 4294967296 ^ k % 4294967296) := by
  rw [Nat.pow_succ, Nat.mod_mul]
theorem Unshift.step {R s n k x y : Nat} {o ul : List Nat} (h : Unshift R s n o k) (hk : k < n) (hs : s < 32) (hl : AllLt ul) (hR : val ul = R * 2 ^ s) (hx : ul[k]? = some x) (hy : ul[k+1]? = some y) :
    Unshift R s n (o.set k ((y * 4294967296 + x) / 2 ^ s % 4294967296)) (k+1) := by
  refine ⟨by simp [h.len], h.lt.set _ _ (Nat.mod_lt _ (by omega)), ?_⟩
  rw [val_set_take _ _ _ (by rw [h.len]; exact hk), h.sum, mod_pow_succ]
  congr 2
  have e1 := drop_cons hx
  have e2 := drop_cons hy
  rw [val_drop ul k hl, hR] at e1
  obtain ⟨t, ht⟩ : ∃ t, t = val (ul.drop (k+1+1)) := ⟨_, rfl⟩
  rw [← ht] at e2
  rw [e2] at e1
  have e3 : R / 4294967296 ^ k = R * 2 ^ s / 4294967296 ^ k / 2 ^ s := by
    rw [Nat.div_div_eq_div_mul, Nat.mul_comm (4294967296 ^ k), ← Nat.div_div_eq_div_mul, Nat.mul_div_cancel _ (Nat.two_pow_pos s)]
  rw [e3, e1]
  have e4 : x + 4294967296 * (y + 4294967296 * t) = (y * 4294967296 + x) + 2 ^ s * (2 ^ (32 - s) * 4294967296 * t) := by
    rw [← Nat.mul_assoc, ← Nat.mul_assoc, ← pow32 hs]; omega
  rw [e4, Nat.add_mul_div_left _ _ (Nat.two_pow_pos s)]
  have e5 : 2 ^ (32 - s) * 4294967296 * t = 4294967296 * (2 ^ (32 - s) * t) := by rw [Nat.mul_comm (2 ^ (32-s)), Nat.mul_assoc]
  rw [e5, Nat.add_mul_mod_self_left]
theorem Unshift.done {R s n : Nat} {o : List Nat} (h : Unshift R s n o n) (hR : R < 4294967296 ^ n) : val o = R := by
  have h1 := h.sum
  rwa [List.take_of_length_le (by rw [h.len]; exact Nat.le_refl _), Nat.mod_eq_of_lt hR] at h1

theorem bracket {v t p m : Nat} (h1 : v = t + m * p) (h3 : t < p) : m * p ≤ v ∧ v < (m + 1) * p := by
  rw [Nat.add_mul, Nat.one_mul]; generalize m * p = x at *; omega
theorem top_two {v : List Nat} {n top next : Nat} (hn : n = v.length) (hn2 : 2 ≤ n) (hl : AllLt v) (e4 : v[n-1]? = some top) (e5 : v[n-2]? = some next) :
    (top * 4294967296 + next) * 4294967296 ^ (n-2) ≤ val v ∧ val v < (top * 4294967296 + next + 1) * 4294967296 ^ (n-2) := by
  have h1 := val_take_drop v (n-2) (by omega)
  have h2 := drop_cons e5
  have e : n - 2 + 1 = n - 1 := by omega
  rw [e, drop_cons e4, List.drop_of_length_le (l := v) (i := n - 1 + 1) (by omega)] at h2
  have h3 := val_lt (hl.take (n-2))
  rw [List.length_take, Nat.min_eq_left (by omega)] at h3
  have h4 : val (v.drop (n-2)) = top * 4294967296 + next := by rw [h2, val_nil]; omega
  rw [h4, Nat.mul_comm] at h1
  exact bracket h1 h3
theorem top_one {v : List Nat} {n top : Nat} (hn : n = v.length) (hn2 : 1 ≤ n) (hl : AllLt v) (e4 : v[n-1]? = some top) : top * 4294967296 ^ (n-1) ≤ val v ∧ val v < (top + 1) * 4294967296 ^ (n-1) := by
  have h1 := val_take_drop v (n-1) (by omega)
  have h2 := drop_cons e4
  have e : n - 1 + 1 = n := by omega
  rw [e, List.drop_of_length_le (l := v) (i := n) (by omega)] at h2
  have h3 := val_lt (hl.take (n-1))
  rw [List.length_take, Nat.min_eq_left (by omega)] at h3
  have h4 : val (v.drop (n-1)) = top := by rw [h2, val_nil]; omega
  rw [h4, Nat.mul_comm] at h1
  exact bracket h1 h3
theorem stretch_len {l : List Nat} {j k : Nat} (h : j + k ≤ l.length) : (stretch l j k).length = k := by unfold stretch; simp; omega
theorem stretch_get {l : List Nat} {j k i : Nat} (h : i < k) : (stretch l j k)[i]? = l[j+i]? := by unfold stretch; rw [List.getElem?_take_of_lt h, List.getElem?_drop]
theorem stretch_all {l : List Nat} (h : AllLt l) (j k : Nat) : AllLt (stretch l j k) := (h.drop j).take k

theorem top_three {l : List Nat} {n hi1 hi0 low : Nat} (hn : l.length = n + 1) (hn2 : 2 ≤ n) (hl : AllLt l) (e1 : l[n]? = some hi1) (e2 : l[n-1]? = some hi0) (e3 : l[n-2]? = some low) :
    ((hi1 * 4294967296 + hi0) * 4294967296 + low) * 4294967296 ^ (n-2) ≤ val l ∧ val l < ((hi1 * 4294967296 + hi0) * 4294967296 + low + 1) * 4294967296 ^ (n-2) := by
  have h1 := val_take_drop l (n-2) (by omega)
  have h2 := drop_cons e3
  have e : n - 2 + 1 = n - 1 := by omega
  have e' : n - 1 + 1 = n := by omega
  rw [e, drop_cons e2, e', drop_cons e1, List.drop_of_length_le (l := l) (i := n + 1) (by omega)] at h2
  have h3 := val_lt (hl.take (n-2))
  rw [List.length_take, Nat.min_eq_left (by omega)] at h3
  have h4 : val (l.drop (n-2)) = (hi1 * 4294967296 + hi0) * 4294967296 + low := by rw [h2, val_nil]; omega
  rw [h4, Nat.mul_comm] at h1
  exact bracket h1 h3

/-- the highest limb of the stretch isn't above the divisor's -/
theorem high_le {ul v : List Nat} {n j hi1 top V : Nat} (hn : n = v.length) (hn2 : 2 ≤ n) (hul : AllLt ul) (hv : AllLt v) (hV : V = val v) (e1 : ul[j+n]? = some hi1) (e4 : v[n-1]? = some top) (hs : val (ul.drop (j+1)) < V) : hi1 ≤ top := by
  have h1 := (top_one hn (by omega) hv e4).2
  have hj := (List.getElem?_eq_some_iff.1 e1).1
  have h2 := stretch_drop ul (j+1) (n-1) (by omega)
  have e : j + 1 + (n-1) = j + n := by omega
  rw [e, drop_cons e1] at h2
  have h3 : hi1 * 4294967296 ^ (n-1) < (top + 1) * 4294967296 ^ (n-1) := by
    have h4 : 4294967296 ^ (n-1) * hi1 ≤ 4294967296 ^ (n-1) * (hi1 + 4294967296 * val (ul.drop (j+n+1))) := Nat.mul_le_mul_left _ (by omega)
    rw [Nat.mul_comm hi1]
    generalize 4294967296 ^ (n-1) * hi1 = m at *
    generalize 4294967296 ^ (n-1) * (hi1 + 4294967296 * val (ul.drop (j+n+1))) = m2 at *
    generalize (top + 1) * 4294967296 ^ (n-1) = m3 at *
    omega
  have := Nat.lt_of_mul_lt_mul_right h3
  omega

theorem guess_ok {ul v : List Nat} {n j hi1 hi0 low top next V X q : Nat} (hn : n = v.length) (hn2 : 2 ≤ n) (hul : AllLt ul) (hv : AllLt v) (hV : V = val v) (hX : X = val (stretch ul j (n+1))) (hj : j + n < ul.length)
    (e1 : ul[j+n]? = some hi1) (e2 : ul[j+n-1]? = some hi0) (e3 : ul[j+n-2]? = some low) (e4 : v[n-1]? = some top) (e5 : v[n-2]? = some next) (ht : 2147483648 ≤ top) (hXV : X < 4294967296 * V)
    (hg : Guessed (hi1 * 4294967296 + hi0) low top next q) : X / V ≤ q ∧ q ≤ X / V + 1 := by
  have h1 := top_two hn hn2 hv e4 e5
  have h2 := top_three (l := stretch ul j (n+1)) (n := n) (hi1 := hi1) (hi0 := hi0) (low := low) (stretch_len (by omega)) hn2 (stretch_all hul _ _) (by rw [stretch_get (by omega)]; exact e1)
    (by rw [stretch_get (by omega), ← e2]; congr 1; omega) (by rw [stretch_get (by omega), ← e3]; congr 1; omega)
  rw [← hX] at h2; rw [← hV] at h1
  exact guess_range (Nat.pow_pos (by omega)) h1.1 h1.2 h2.1 h2.2 hXV (by omega) hg.low' hg.most hg.upp

theorem less_zero {S q V X : Nat} (h : S + q * V = X) (hr : X / V ≤ q) (hV : 0 < V) : q = X / V ∧ S = X - X / V * V := by
  have h1 : q ≤ X / V := by rw [Nat.le_div_iff_mul_le hV]; omega
  have h2 : q = X / V := Nat.le_antisymm h1 hr
  refine ⟨h2, ?_⟩
  rw [← h2]; omega
theorem less_one {S q V X P S' c : Nat} (h : S + q * V = X + P) (hS : S < P) (hr : q ≤ X / V + 1) (hV : 0 < V) (hVP : V ≤ P) (h' : S' + P * c = S + V) (hS' : S' < P) : q - 1 = X / V ∧ 0 < q ∧ S' = X - X / V * V := by
  have h1 : X / V < q := by rw [Nat.div_lt_iff_lt_mul hV]; omega
  have h2 : q = X / V + 1 := Nat.le_antisymm hr h1
  have h3 := sub_div_lt X hV
  have h4 := Nat.div_mul_le_self X V
  have hq0 : 0 < q := Nat.lt_of_le_of_lt (Nat.zero_le _) h1
  have h5 : q - 1 = X / V := by rw [h2]; rfl
  refine ⟨h5, hq0, ?_⟩
  rw [h2, Nat.add_mul, Nat.one_mul] at h
  generalize X / V * V = Y at *
  have hc : c = 1 := by
    rcases Nat.lt_trichotomy c 1 with h6 | h6 | h6
    · have : c = 0 := by omega
      subst this; simp only [Nat.mul_zero, Nat.add_zero] at h'; omega
    · exact h6
    · have := Nat.mul_le_mul_left P (show 2 ≤ c from h6)
      omega
  subst hc
  rw [Nat.mul_one] at h'
  omega
theorem Same.trans {l o u : List Nat} {j k : Nat} (h : Same l o j k) (h' : Same o u j k) : Same l u j k := ⟨h'.len.trans h.len, h'.lt, h'.low.trans h.low, h'.high.trans h.high⟩

/-- at the start -/
theorem LongInv.start {a u : List Nat} {V na n s d : Nat} (hn : n ≤ na) (hna : na = a.length) (ha : AllLt a) (hul : u.length = na + 1) (hult : AllLt u) (hu : val u = val a * 2 ^ s) (hV : V = d * 2 ^ s) (hd : 4294967296 ^ (n-1) ≤ d) (hn1 : 1 ≤ n) :
    LongInv (val a * 2 ^ s) V na n u (List.replicate (na - n + 1) 0) (na - n + 1) := by
  refine ⟨hul, hult, by simp, AllLt.replicate _, ?_, ?_⟩
  · rw [List.drop_of_length_le (l := List.replicate (na - n + 1) 0) (i := na - n + 1) (by simp), val_nil, Nat.mul_zero, Nat.mul_zero, Nat.add_zero]; exact hu
  · rw [val_drop u _ hult, hu, Nat.div_lt_iff_lt_mul (Nat.pow_pos (by omega)), hV]
    have h1 := val_lt ha
    rw [← hna] at h1
    have h2 : 4294967296 ^ na = 4294967296 ^ (n-1) * 4294967296 ^ (na - n + 1) := by rw [← Nat.pow_add]; congr 1; omega
    have h3 : val a * 2 ^ s < 4294967296 ^ na * 2 ^ s := Nat.mul_lt_mul_of_pos_right h1 (Nat.two_pow_pos s)
    have h4 : 4294967296 ^ na * 2 ^ s ≤ d * 2 ^ s * 4294967296 ^ (na - n + 1) := by
      rw [h2, Nat.mul_right_comm]
      exact Nat.mul_le_mul_right _ (Nat.mul_le_mul_right _ hd)
    exact Nat.lt_of_lt_of_le h3 h4
/-- the divisor, shifted, has no more limbs -/
theorem shifted {b v0 : List Nat} {n x s : Nat} (hn : n = b.length) (hn1 : 1 ≤ n) (hb : AllLt b) (hx : b[n-1]? = some x) (h2 : 2147483648 ≤ x * 2 ^ s) (h3 : (x + 1) * 2 ^ s ≤ 4294967296) (hl : v0.length = n + 1) (hlt : AllLt v0) (hv : val v0 = val b * 2 ^ s) :
    val (v0.take n) = val b * 2 ^ s ∧ (∀ top, (v0.take n)[n-1]? = some top → 2147483648 ≤ top) ∧ val b * 2 ^ s < 4294967296 ^ n := by
  have h1 := top_one hn hn1 hb hx
  have e : 4294967296 ^ n = 4294967296 ^ (n-1) * 4294967296 := by rw [← Nat.pow_succ]; congr 1; omega
  have h4 : val b * 2 ^ s < 4294967296 ^ n := by
    have h5 : val b * 2 ^ s < (x + 1) * 4294967296 ^ (n-1) * 2 ^ s := Nat.mul_lt_mul_of_pos_right h1.2 (Nat.two_pow_pos s)
    rw [Nat.mul_right_comm] at h5
    have h6 := Nat.mul_le_mul_right (4294967296 ^ (n-1)) h3
    rw [e, Nat.mul_comm (4294967296 ^ (n-1))]
    exact Nat.lt_of_lt_of_le h5 h6
  have h7 := take_of_lt (b := v0) (n := n) (by rw [hv]; exact h4)
  rw [hv] at h7
  refine ⟨h7, fun top ht => ?_, h4⟩
  have h8 := (top_one (v := v0.take n) (by simp; omega) hn1 (hlt.take n) ht).2
  rw [h7] at h8
  have h9 : x * 4294967296 ^ (n-1) * 2 ^ s ≤ val b * 2 ^ s := Nat.mul_le_mul_right _ h1.1
  rw [Nat.mul_right_comm] at h9
  have h10 := Nat.mul_le_mul_right (4294967296 ^ (n-1)) h2
  have h11 := Nat.lt_of_mul_lt_mul_right (Nat.lt_of_le_of_lt (Nat.le_trans h10 h9) h8)
  omega
end Go.Proofs.YthncinngkfflgaaGreat


/- nat.long: long division. -/
set_option linter.unusedVariables false
set_option linter.unusedSimpArgs false
set_option maxRecDepth 100000
namespace Go.Proofs.YthncinngkfflgaaGreat
open Go.RowKit

/-- limbs in one row, whole, in a new block -/
def Whole (T : TypeId) (w : World) (B : Nat) (v : Value) (l : List Nat) : Prop := ∃ g cap sp, v = .slice (some ⟨g, 0, none⟩) l.length cap ∧ B ≤ g ∧ Row w g T (nums .u32 l ++ sp) ∧ l.length ≤ cap ∧ cap ≤ maxLen
theorem Own32.whole {T : TypeId} {w : World} {B : Nat} {v : Value} {l : List Nat} (h : Own32 T w B v l) (h0 : 0 < l.length) : Whole T w B v l := by
  rcases h.2.row with ⟨rfl, rfl⟩ | h
  · simp at h0
  · exact h

set_option maxHeartbeats 1000000 in
theorem shift_long (w : World) (v : Value) (a : List Nat) (n : Nat) (s : Int) (h : U32s w v a) (hn : n = a.length) (ha : n ≤ 1000000000) (hs0 : 0 ≤ s) (hs : s < 32) :
    Calls Tryz.prog 188 #[v, .int .i64 s] w fun e w' => ∃ g cap sp o, e = .returned (.slice (some ⟨g, 0, none⟩) (n + 1) cap) ∧ w.heap.size ≤ g ∧ g < w'.heap.size ∧ Row w' g 133 (nums .u32 o ++ sp) ∧ AllLt o ∧ o.length = n + 1 ∧ n + 1 ≤ cap ∧ cap ≤ maxLen ∧ val o = val a * 2 ^ s.toNat ∧ Later w w' := by
  subst hn
  obtain ⟨t, rfl⟩ := Int.eq_ofNat_of_zero_le hs0
  refine (shift_calls w v a t h ha (by omega)).mono ?_
  rintro e w' ⟨v', rfl, ⟨o, ho, hl, hv⟩, hb⟩
  obtain ⟨g, cap, sp, rfl, h1, h2, h3, h4⟩ := ho.whole (by omega)
  rw [hl] at h3 ⊢
  exact ⟨g, cap, sp, o, rfl, h1, h2.lt, h2, ho.1, hl, h3, h4, by simpa using hv, hb⟩

theorem lead_calls (x : Nat) (s : Nat) (hx : x < 4294967296) (hs : s = 32 - Lib.bitLen x) (hb : Lib.bitLen x ≤ 32) (w : World) :
    Calls Tryz.prog 187 #[.int .u32 x] w fun e w' => e = .returned (.int .i64 s) ∧ w = w' := by
  refine (bits_LeadingZeros32 (x : Int) w (by omega) (by omega)).mono ?_
  rintro e w' ⟨rfl, rfl⟩
  refine ⟨?_, rfl⟩
  rw [Int.toNat_natCast]; congr 2; omega

theorem U32s.of_row {T : TypeId} {w : World} {g n cap : Nat} {l : List Nat} {sp : List Value} (h : Row w g T (nums .u32 l ++ sp)) (hl : AllLt l) (hn : n = l.length) (hc : n ≤ cap) (hm : cap ≤ maxLen) : U32s w (.slice (some ⟨g, 0, none⟩) n cap) l := by
  subst hn
  refine ⟨hl, _, cap, rfl, hc, hm, by rw [length_nums]; simp, ?_⟩
  have := Cells.of_row_take h (nums .u32 l).length
  rwa [List.take_left] at this

set_option maxHeartbeats 2000000 in
theorem long_calls (w : World) (va vb : Value) (a b : List Nat) (h : U32s w va a) (h' : U32s w vb b) (ha : a.length ≤ 1000000000) (hb2 : 2 ≤ b.length) (hba : b.length ≤ a.length) (hlast : ∀ x, b[b.length - 1]? = some x → x ≠ 0) :
    Calls Tryz.prog 181 #[va, vb] w (Ret2 w fun w' q r => Own32 133 w' w.heap.size q (limbs (val a / val b)) ∧ Own32 133 w' w.heap.size r (limbs (val a % val b))) := by
  have H1 := hide h; have H2 := hide h'
  obtain ⟨A, ca, rfl, hca, -⟩ := h.form
  obtain ⟨A', cb, rfl, hcb, hcbm, hlb, hcc⟩ := h'.form
  obtain ⟨bb, ob, x, rfl, hx, hxl, hxc⟩ := limb_at hcc hlb (k := b.length - 1) (by omega)
  have hx0 := hlast x hx.out
  obtain ⟨na, hna⟩ : ∃ na, na = a.length := ⟨_, rfl⟩
  obtain ⟨n, hn⟩ : ∃ n, n = b.length := ⟨_, rfl⟩
  rw [← hna] at ha hba hca H1; rw [← hn] at hb2 hba hcb hx hxc H2; rw [← hna, ← hn]
  have HNA := hide hna; have HN := hide hn; clear hna hn h h' hcc hcbm
  obtain ⟨s, hs⟩ : ∃ s, s = 32 - Lib.bitLen x := ⟨_, rfl⟩
  obtain ⟨r1, r2, r3⟩ := lead_range (Nat.pos_of_ne_zero hx0) hxl hs
  have hbl := (bitLen_range 32 x hxl (Nat.le_refl _) (Nat.pos_of_ne_zero hx0)).2.2.2
  have HR2 := hide r2; have HR3 := hide r3; have HS := hide hs
  clear r2 r3 hs
  go_enter Tryz.func181, Tryz.ntmps181
  go_wp2_with ((with_reducible refine (lead_calls x s hxl HS.out hbl _).mono ?_); rintro e w' ⟨rfl, rfl⟩)
  go_region_with (first
    | ((with_reducible refine (shift_long _ _ a na (s : Int) (H1.out.later (Later.refl w).drew) HNA.out (by omega) (by omega) (by omega)).mono ?_); rintro e w1 ⟨g, cap, sp, u0, rfl, hg1, hg2, hr1, hu1, hu2, hu3, hu4, hu5, hb1⟩)
    | ((with_reducible refine (shift_long _ _ b n (s : Int) (H2.out.later ((Later.refl w).drew.trans hb1)) HN.out (by omega) (by omega) (by omega)).mono ?_); rintro e w2 ⟨gv, capv, spv, v0, rfl, hg1v, hg2v, hr1v, hv1, hv2, hv3, hv4, hv5, hb2⟩))
  rw [Int.toNat_natCast] at hu5 hv5
  have hU2 := hide hu2; have hU5 := hide hu5; have hV2 := hide hv2; have hV5 := hide hv5
  clear hu2 hu5 hv2 hv5 hxc
  obtain ⟨v, hv⟩ : ∃ v, v = v0.take n := ⟨_, rfl⟩
  obtain ⟨spw, hspw⟩ : ∃ spw, spw = nums .u32 (v0.drop n) ++ spv := ⟨_, rfl⟩
  have hrv : Row w2 gv 133 (nums .u32 v ++ spw) := by rw [hv, hspw, ← List.append_assoc, ← nums_append, List.take_append_drop]; exact hr1v
  have hvl : AllLt v := by rw [hv]; exact hv1.take n
  have hvn : Hid (n = v.length) := hide (by rw [hv, List.length_take, hV2.out]; omega)
  have hsh := shifted HN.out (by omega) H2.out.1 hx.out HR2.out HR3.out hV2.out hv1 hV5.out
  rw [← hv] at hsh
  have HSH := hide hsh
  have HB := hide ((top_one HN.out (by omega) H2.out.1 hx.out).1)
  clear hsh hv hspw hr1v
  obtain ⟨V, hV⟩ : ∃ V, V = val b * 2 ^ s := ⟨_, rfl⟩
  have HV := hide hV; clear hV
  have hgvg : gv ≠ g := by omega
  have hbw : Later w w2 := ((Later.refl w).drew.trans hb1).trans hb2
  have hrg2 := hr1.later hb2
  go_wp2_with (at_make; refine wpList_make_u32 rfl (.tmp 35) rfl _ (na - n + 1) rfl (by omega) (by omega) ?_; intro gq w3 hgq hrq hbq)
  have hst := LongInv.start (a := a) (u := u0) (V := V) (na := na) (n := n) (s := s) (d := val b) hba HNA.out H1.out.1 hU2.out hu1 hU5.out HV.out
    (Nat.le_trans (by have := Nat.mul_le_mul_right (4294967296 ^ (n-1)) (Nat.pos_of_ne_zero hx0); rw [Nat.one_mul] at this; exact this) HB.out) (by omega)
  have HST := hide hst; clear hst
  have hgq1 : gq ≠ g := by omega
  have hgq2 : gv ≠ gq := by omega
  have hrg3 := hrg2.later hbq
  have hrv3 := hrv.later hbq
  have hbw3 := hbw.trans hbq
  clear hrg2 hrv hr1 hbq hb1 hb2 hx hbl
  go_loopw [10, 11] (fun jj dd wr => ∃ m ul ql, m ≤ na - n + 1 ∧ jj = .int .i64 (((m : Nat) : Int) - 1) ∧ Hid (LongInv (val a * 2 ^ s) V na n ul ql m) ∧ Row wr g 133 (nums .u32 ul ++ sp) ∧ Row wr gv 133 (nums .u32 v ++ spw) ∧ Row wr gq 133 (nums .u32 ql) ∧ Later w wr) (fun jj _ _ => (intOf jj + 1).toNat)
  case atStart => exact ⟨na - n + 1, u0, _, Nat.le_refl _, by go_num, HST, hrg3, hrv3, hrq, hbw3⟩
  case round =>
    clear hrg3 hrv3 hrq hbw3 HST
    obtain ⟨m, ul, ql, hm, rfl, hI, hr, hrv, hrq, hb⟩ := hrel
    by_cases hm0 : 0 < m
    · obtain ⟨j, hj⟩ : ∃ j, m = j + 1 := ⟨m - 1, by omega⟩
      subst hj
      have hulen := hide hI.out.ulen
      have hult := hI.out.ult
      have hj1 : j + n ≤ na := by omega
      obtain ⟨hi1, e1, -⟩ := row_cell_sp hr (k := j + n) (by rw [hulen.out]; omega)
      obtain ⟨hi0, e2, -⟩ := row_cell_sp hr (k := j + n - 1) (by rw [hulen.out]; omega)
      obtain ⟨low, e3, -⟩ := row_cell_sp hr (k := j + n - 2) (by rw [hulen.out]; omega)
      obtain ⟨top, e4, -⟩ := row_cell_sp hrv (k := n - 1) (by rw [← hvn.out]; omega)
      obtain ⟨next, e5, -⟩ := row_cell_sp hrv (k := n - 2) (by rw [← hvn.out]; omega)
      have ht := HSH.out.2.1 top e4.out
      have hvV : Hid (V = val v) := hide (by rw [HV.out, HSH.out.1])
      have hh := high_le hvn.out hb2 hult hvl hvV.out e1.out e4.out hI.out.small
      have hU : U32s wr (.slice (some ⟨g, 0, none⟩) (na + 1) cap) ul := U32s.of_row hr hult hulen.out.symm hu3 hu4
      have hVs : U32s wr (.slice (some ⟨gv, 0, none⟩) n capv) v := U32s.of_row hrv hvl hvn.out (by omega) hv4
      have HU := hide hU; have HVs := hide hVs; clear hU hVs
      have HC := hide (guess_calls wr _ _ ul v n j hi1 hi0 low top next HU.out HVs.out hvn.out hb2 (by rw [hulen.out]; omega) (by rw [hulen.out]; omega) e1.out e2.out e3.out e4.out e5.out ht hh)
      go_wp2_with fail
      refine HC.out.mono ?_
      rintro e w4 ⟨q, rfl, hG, hb4⟩
      have hb5 := hb.trans hb4
      obtain ⟨X, hX⟩ : ∃ X, X = val (stretch ul j (n+1)) := ⟨_, rfl⟩
      have hXV : X < 4294967296 * V := by rw [hX]; exact hI.out.bound hj1
      have hq := guess_ok hvn.out hb2 hult hvl hvV.out hX (by rw [hulen.out]; omega) e1.out e2.out e3.out e4.out e5.out ht hXV hG
      have hqm := hG.most
      have hVn : V < 4294967296 ^ n := by rw [HV.out]; exact HSH.out.2.2
      have hV0 : 0 < V := Nat.lt_of_le_of_lt (Nat.zero_le _) hI.out.small
      have hqV : X / V < 4294967296 := Nat.div_lt_of_lt_mul (by rw [Nat.mul_comm]; exact hXV)
      have HX := hide hX; have HXV := hide hXV; have HQ := hide hq; have HVN := hide hVn; have HQV := hide hqV
      have HLC := hide (less_calls w4 g gv (na+1) cap n capv j q ul v sp spw (hr.later hb4) (hrv.later hb4) hgvg hult hvl hvn.out hulen.out.symm (by omega) hqm (by omega))
      have hrq4 := hrq.later hb4
      have hrv4 := hrv.later hb4
      clear hX hXV hq hVn hqV hr hrv hrq hb hb4 e1 e2 e3 e4 e5 HC ht hh
      go_wp2_with fail
      refine HLC.out.mono ?_
      rintro e w5 ⟨o, bo, rfl, hbo, hs, hsum, hr5, hg5⟩
      have hb6 : Later w w5 := hb5.grown hg5 (fun k hk => by cases hk; exact hg1)
      have hrv5 := hrv4.grown hg5 (by simpa using hgvg)
      have hrq5 := hrq4.grown hg5 (by simpa using hgq1)
      have HSU := hide hsum; have HSA := hide hs
      clear hsum hs hrv4 hrq4 hb5
      rcases Nat.eq_zero_or_pos bo with hbo0 | hbo1
      · subst hbo0
        have hz := less_zero (by have := HSU.out; rw [Nat.mul_zero, Nat.add_zero, ← hvV.out, ← HX.out] at this; exact this) HQ.out.1 hV0
        have hstep := (hI.out.step hba hj1 HVN.out HX.out HSA.out hz.2).2
        have hql : q < 4294967296 := by rw [hz.1]; exact HQV.out
        rw [← hz.1] at hstep
        have HSTEP := hide hstep
        obtain ⟨z, -, hzc, hzf⟩ := row_cell hrq5 (k := j) (by rw [hI.out.qlen]; omega)
        clear hz hstep
        go_wp2_with fail
        go_roundw
        case rel => exact ⟨j, o, _, by omega, by go_num, HSTEP, hr5.far (p := ⟨gq, j, none⟩) (fun e => hgq1 e.symm) _, hrv5.far (p := ⟨gq, j, none⟩) hgq2 _, row_set hrq5, hb6.setCell (p := ⟨gq, j, none⟩) (by have := hbw.size; show _ ≤ gq; omega) _⟩
        case measure => simp [intOf] <;> omega
      · obtain rfl : bo = 1 := by omega
        have HBC := hide (back_calls w5 g gv (na+1) cap n capv j o v sp spw hr5 hrv5 hgvg HSA.out.lt hvl hvn.out (by rw [HSA.out.len, hulen.out]) (by omega) (by omega))
        have hq0 : 0 < q := by
          have h1 := HSU.out
          have h2 := stretch_lt HSA.out.lt j (n+1)
          refine Nat.pos_of_ne_zero fun h0 => ?_
          rw [h0, Nat.zero_mul, Nat.add_zero, Nat.mul_one] at h1
          omega
        have hqq : q - 1 < 4294967296 := by omega
        have hqi : ((q : Int) - 1) = ((q - 1 : Nat) : Int) := by omega
        clear hr5
        go_wp2_with fail
        refine HBC.out.mono ?_
        rintro e w6 ⟨o', c, rfl, hs', hsum', hr6, hg6⟩
        have hz := less_one (by have := HSU.out; rw [Nat.mul_one, ← hvV.out, ← HX.out] at this; exact this) (stretch_lt HSA.out.lt j (n+1)) HQ.out.2 hV0
          (by rw [Nat.pow_succ]; exact Nat.le_trans (Nat.le_of_lt HVN.out) (Nat.le_mul_of_pos_right _ (by omega))) (by rw [hvV.out]; exact hsum') (stretch_lt hs'.lt j (n+1))
        have hstep := (hI.out.step hba hj1 HVN.out HX.out (HSA.out.trans hs') hz.2.2).2
        rw [← hz.1] at hstep
        have HSTEP := hide hstep
        have hb7 : Later w w6 := hb6.grown hg6 (fun k hk => by cases hk; exact hg1)
        have hrv6 := hrv5.grown hg6 (by simpa using hgvg)
        have hrq6 := hrq5.grown hg6 (by simpa using hgq1)
        obtain ⟨z, -, hzc, hzf⟩ := row_cell hrq6 (k := j) (by rw [hI.out.qlen]; omega)
        clear hz hstep hs' hsum' hrv5 hrq5 hb6
        have hwq : ((q : Int) - 1) % 4294967296 = ((q - 1 : Nat) : Int) := by omega
        go_wp2_with fail
        go_roundw
        case rel => exact ⟨j, o', _, by omega, by go_num, HSTEP, hr6.far (p := ⟨gq, j, none⟩) (fun e => hgq1 e.symm) _, hrv6.far (p := ⟨gq, j, none⟩) hgq2 _, by first | exact row_set hrq6 | (rw [hqi]; exact row_set hrq6), hb7.setCell (p := ⟨gq, j, none⟩) (by have := hbw.size; show _ ≤ gq; omega) _⟩
        case measure => simp [intOf] <;> omega
    · obtain rfl : m = 0 := by omega
      have hD := hI.out.done
      have hdv := scaled_div (m := val a) (d := val b) (Nat.two_pow_pos s)
      rw [← HV.out] at hdv
      rw [hdv.1, hdv.2] at hD
      have HD := hide hD
      have HUL := hide hI.out.ulen
      have hult := hI.out.ult
      have HQL := hide hI.out.qlen
      have HQT := hide hI.out.qlt
      clear hD hdv hI
      go_wp2_with (at_make; refine wpList_make_u32 rfl (.tmp 65) rfl _ n rfl rfl (by omega) ?_; intro gr w7 hgr hrr hbr)
      obtain ⟨R, hR⟩ : ∃ R, R = val a % val b := ⟨_, rfl⟩
      have HR := hide hR
      have hRul : Hid (val ul = R * 2 ^ s) := hide (by rw [HD.out.2, hR])
      have hRn : Hid (R < 4294967296 ^ n) := hide (by
        have h1 := val_lt H2.out.1
        rw [← HN.out] at h1
        rw [hR]
        refine Nat.lt_of_le_of_lt (Nat.le_of_lt (Nat.mod_lt _ ?_)) h1
        exact Nat.lt_of_lt_of_le (Nat.mul_pos (Nat.pos_of_ne_zero hx0) (Nat.pow_pos (by omega))) HB.out)
      clear hR
      have hb8 := hb.trans hbr
      have hr8 := hr.later hbr
      have hrq8 := hrq.later hbr
      have hgrg : gr ≠ g := by have := hr.lt; omega
      have hgrq : gr ≠ gq := by have := hrq.lt; omega
      have hgrw : w.heap.size ≤ gr := Nat.le_trans hb.size hgr
      clear hb hbr hr hrq hrv
      go_loopw [69] (fun i wr => ∃ k o, k ≤ n ∧ i = .int .i64 ((k : Nat) : Int) ∧ Hid (Unshift R s n o k) ∧ Row wr g 133 (nums .u32 ul ++ sp) ∧ Row wr gq 133 (nums .u32 ql) ∧ Row wr gr 133 (nums .u32 o) ∧ Later w wr) (fun i _ => (n - intOf i).toNat)
      case atStart => exact ⟨0, _, by omega, rfl, hide (Unshift.start R s n), hr8, hrq8, hrr, hb8⟩
      case round =>
        clear hr8 hrq8 hrr hb8
        obtain ⟨k, o, hk, rfl, hU, hr, hrq, hrr, hb⟩ := hrel
        by_cases hkn : k < n
        · obtain ⟨x0, f1, c1, -⟩ := row_cell_sp hr (k := k) (by rw [HUL.out]; omega)
          obtain ⟨y0, f2, c2, -⟩ := row_cell_sp hr (k := k + 1) (by rw [HUL.out]; omega)
          obtain ⟨z0, -, c3, c4⟩ := row_cell hrr (k := k) (by rw [hU.out.len]; exact hkn)
          have hx0l := hult.at_ f1.out
          have hy0l := hult.at_ f2.out
          have hor := or_u64 hy0l hx0l
          obtain ⟨mm, hmm⟩ : ∃ mm, mm = y0 * 4294967296 + x0 := ⟨_, rfl⟩
          rw [← hmm] at hor
          have hmml : mm < 18446744073709551616 := by omega
          have HSTEP := hide (hU.out.step hkn r1 hult hRul.out f1.out f2.out)
          rw [← hmm] at HSTEP
          have hmi : Hid (((mm : Int) / 2 ^ s) % 4294967296 = ((mm / 2 ^ s % 4294967296 : Nat) : Int)) := hide (by simp)
          clear hmm
          go_wp2_with fail
          go_region
          go_wp2_with fail
          go_roundw
          case rel =>
            refine ⟨k+1, _, by omega, by go_num, HSTEP, ?_, ?_, ?_, (hb.setCell (p := ⟨gr, k, none⟩) hgrw _).drew⟩
            · exact (hr.far (p := ⟨gr, k, none⟩) (fun e => hgrg e.symm) _).drew
            · exact (hrq.far (p := ⟨gr, k, none⟩) (fun e => hgrq e.symm) _).drew
            · rw [hmi.out]; exact Row.drew (row_set hrr)
          case measure => simp [intOf] <;> omega
        · obtain rfl : k = n := by omega
          have hRv := hide (hU.out.done hRn.out)
          have HOQ := hide (show Own32 133 wr w.heap.size (.slice (some ⟨gq, 0, none⟩) (na - k + 1) (na - k + 1)) ql from ⟨HQT.out, OwnNums.of_row hrq (Nat.le_trans hbw.size hgq) HQL.out (by unfold maxLen; omega)⟩)
          have HOR := hide (show Own32 133 wr w.heap.size (.slice (some ⟨gr, 0, none⟩) k k) o from ⟨hU.out.lt, OwnNums.of_row hrr hgrw hU.out.len (by unfold maxLen; omega)⟩)
          have HC1 := hide (trim_calls wr _ ql HOQ.out.reads (by rw [HQL.out]; omega))
          have HLo := hide (show o.length ≤ 2000000000 by rw [hU.out.len]; omega)
          clear hr hrq hrr hU
          go_wp2_with fail
          refine HC1.out.mono ?_
          rintro e w8 ⟨v1, rfl, ov1, bv1⟩
          go_wp2_with fail
          refine (trim_calls w8 _ o (HOR.out.reads.later bv1) HLo.out).mono ?_
          rintro e w9 ⟨v2, rfl, ov2, bv2⟩
          go_wp2_with fail
          go_ret2
          refine ⟨_, _, rfl, ⟨?_, ?_⟩, (hb.trans bv1).trans bv2⟩
          · rw [← HD.out.1]; exact (ov1.weaken hb.size).later bv2
          · rw [← HR.out, ← hRv.out]; exact ov2.weaken (hb.trans bv1).size
end Go.Proofs.YthncinngkfflgaaGreat


/- slices.Backward at limbs, and nat.small: a number by one limb. -/
set_option linter.unusedVariables false
set_option linter.unusedSimpArgs false
set_option maxRecDepth 100000
namespace Go.Proofs.YthncinngkfflgaaGreat
open Go.RowKit Go.Shelf

attribute [local go_sem] Oper.semAt_some

/-- a place and a limb -/
abbrev Spot (n : Nat) := { p : Nat × Nat // p.1 < n ∧ p.2 < 4294967296 }
def spotEnc {n : Nat} (x : Spot n) : Array Value := #[.int .i64 (x.1.1 : Int), .int .u32 (x.1.2 : Int)]
/-- the k highest limbs, the highest first -/
def spots (l : List Nat) (h : AllLt l) : Nat → List (Spot l.length)
  | 0 => []
  | k + 1 => spots l h k ++ (if hk : k < l.length then [⟨(l.length - 1 - k, l.getD (l.length - 1 - k) 0), by omega, getD_lt h _⟩] else [])
theorem spots_length (l : List Nat) (h : AllLt l) (k : Nat) (hk : k ≤ l.length) : (spots l h k).length = k := by
  induction k with
  | zero => rfl
  | succ k ih => simp only [spots, dif_pos (show k < l.length from hk), List.length_append, ih (by omega), List.length_singleton]

/-- what a loop's body must keep: all below a block number, and the iterator's own box -/
def KeepBox (n₀ Bs : Nat) (W W' : World) : Prop := Below n₀ W W' ∧ W'.heap[Bs]? = W.heap[Bs]?
theorem KeepBox.refl (n₀ Bs : Nat) (W : World) : KeepBox n₀ Bs W W := ⟨Below.refl _ _, rfl⟩
theorem KeepBox.trans {n₀ Bs : Nat} {A B C : World} (h : KeepBox n₀ Bs A B) (k : KeepBox n₀ Bs B C) : KeepBox n₀ Bs A C := ⟨h.1.trans k.1, k.2.trans h.2⟩
theorem KeepBox.putObj {n₀ Bs S : Nat} (h1 : n₀ ≤ S) (h2 : Bs < S) : ∀ (W : World) (l : Nat) (o o' : Obj), S ≤ l → W.heap[l]? = some o → o.isCells = false → o.isWalk = false → KeepBox n₀ Bs W (W.putObj l o') := by
  intro W l o o' hl ho _ _
  refine ⟨(Below.refl _ _).trans ⟨rfl, rfl, rfl, by simp, fun k hk => World.putObj_heap_other (by omega)⟩, World.putObj_heap_other (by omega)⟩

set_option maxHeartbeats 2000000 in
theorem backward1_in (F : Fence) (n : Nat) (hf : F.fn 193) (hro : F.round = none) (hn : 1 ≤ n) (l Bs n₀ b off cap : Nat) (zs : List Nat) (hz : AllLt zs) (hreach : zs.length ≤ 1000000000) (hb : b < n₀) (J Jx : List (Spot zs.length) → World → Prop)
    (hY : ∀ pre x W, J pre W → pre.length < zs.length → YieldAt F (n - 1) Tryz.prog l (spotEnc x) W fun e W' =>
      (e = .returned (.bool true) ∧ J (pre ++ [x]) W' ∧ KeepBox n₀ Bs W W') ∨ (e = .returned (.bool false) ∧ Jx (pre ++ [x]) W'))
    (W : World) (hBc : W.cell? ⟨Bs, 0, none⟩ = some (.slice (some ⟨b, off, none⟩) zs.length cap)) (hc : ∀ j u, (nums .u32 zs)[j]? = some u → W.cell? ⟨b, off + j, none⟩ = some u) (h0 : J [] W) :
    CallsIn F n Tryz.prog 193 #[.func (.yield l) #[] #[], .pointer (some ⟨Bs, 0, none⟩)] W fun e W' => (∃ v, e = .returned v) ∧
      ((∃ ys, ys = spots zs hz zs.length ∧ J ys W') ∨ (∃ pre, (∃ k, k ≤ zs.length ∧ pre = spots zs hz k) ∧ Jx pre W')) := by
  refine callsIn_of_wp Tryz.func193 rfl hf ?_ hro
  simp only [Tryz.ntmps193, List.size_toArray, List.length_cons, List.length_nil, Nat.reduceAdd, Nat.reduceSub, Array.replicate_succ, Array.replicate_zero, List.push_toArray, List.append_toArray, List.nil_append, List.cons_append]
  obtain ⟨len, hlen⟩ : ∃ len, len = zs.length := ⟨_, rfl⟩
  rw [← hlen] at hBc hreach
  have HL := hide hlen; clear hlen
  gi_wp2
  gi_loopw [3] (fun i wr => ∃ k m : Nat, k + m = len ∧ i = .int .i64 ((m : Int) - 1) ∧ J (spots zs hz k) wr ∧ KeepBox n₀ Bs W wr) (fun i _ => (intOf i + 1).toNat)
  case atStart => exact ⟨0, len, by omega, rfl, h0, KeepBox.refl _ _ _⟩
  case round =>
    obtain ⟨k, m, hkm, rfl, hJs, hnx⟩ := hrel
    have hBc' : wr.cell? ⟨Bs, 0, none⟩ = some (.slice (some ⟨b, off, none⟩) len cap) := (World.cell?_of_block (a := ⟨Bs, 0, none⟩) hnx.2).trans hBc
    by_cases hlt : 0 < m
    · obtain ⟨x, hx, hxu⟩ := nums_at (q := .u32) (l := zs) (k := m - 1) (by rw [← HL.out]; omega)
      have hcx : wr.cell? ⟨b, off + (m - 1), none⟩ = some (.int .u32 (x : Int)) := (hnx.1.cell (p := ⟨b, off + (m - 1), none⟩) hb).trans (hc _ _ hxu)
      have hxl := hz.at_ hx
      obtain ⟨fn, tmps, assign, body, hy, hR⟩ := hY _ ⟨(m - 1, x), by rw [← HL.out]; omega, hxl⟩ wr hJs (by rw [spots_length _ _ _ (by rw [← HL.out]; omega), ← HL.out]; omega)
      have HX := hide hx; clear hx hxu
      simp only [spotEnc] at hy
      have e1 : ((m - 1 : Nat) : Int) = (m : Int) - 1 := by omega
      rw [e1] at hy
      clear e1
      gi_wp2
      refine hR.mono ?_
      have hsp : spots zs hz (k + 1) = spots zs hz k ++ [⟨(m - 1, x), by rw [← HL.out]; omega, hxl⟩] := by
        simp only [spots, dif_pos (show k < zs.length by rw [← HL.out]; omega)]
        congr 3
        · have := HL.out; simp only [Prod.mk.injEq]
          have e : zs.length - 1 - k = m - 1 := by omega
          refine ⟨e, ?_⟩
          rw [e, List.getD_eq_getElem?_getD, HX.out]; rfl
      rintro e W3 (⟨rfl, hJ3, hk3⟩ | ⟨rfl, hJx3⟩)
      · gi_wp2
        go_roundw
        case rel => exact ⟨k + 1, m - 1, by omega, by go_num, by rw [hsp]; exact hJ3, hnx.trans hk3⟩
        case measure => simp [intOf]; omega
      · gi_wp2
        refine bodyPost_ret (results_none rfl _ _ _) rfl ?_
        exact ⟨⟨_, rfl⟩, .inr ⟨_, ⟨k + 1, by rw [← HL.out]; omega, hsp.symm⟩, hJx3⟩⟩
    · obtain rfl : m = 0 := by omega
      obtain rfl : k = len := by omega
      gi_wp2
      go_end0
      exact ⟨⟨_, rfl⟩, .inl ⟨_, by rw [HL.out], hJs⟩⟩

set_option maxHeartbeats 1000000 in
theorem backward_in (F : Fence) (n : Nat) (hf : F.fn 185) (hro : F.round = none) (a : Option Addr) (len cap : Nat) (w : World) :
    CallsIn F n Tryz.prog 185 #[.slice a len cap] w fun e w' => e = .returned (.func (.func 193) #[] #[.pointer (some ⟨w.heap.size, 0, none⟩)]) ∧ w' = w.alloc (.cells #[.slice a len cap] 33) := by
  refine callsIn_of_wp Tryz.func185 rfl hf ?_ hro
  simp only [Tryz.ntmps185, List.size_toArray, List.length_cons, List.length_nil, Nat.reduceAdd, Nat.reduceSub, Array.replicate_succ, Array.replicate_zero, List.push_toArray, List.append_toArray, List.nil_append, List.cons_append]
  gi_wp2
  go_ret
  exact ⟨rfl, rfl⟩

theorem backward_stops (F : Fence) (n : Nat) (hf : F.fn 193) (hro : F.round = none) (hn : 1 ≤ n) (Bs n₀ b off cap : Nat) (zs : List Nat) (hz : AllLt zs) (hreach : zs.length ≤ 1000000000) (w : World) (hBs : Bs < w.heap.size) (hb : b < n₀) (hn₀ : n₀ ≤ w.heap.size)
    (hBc : w.cell? ⟨Bs, 0, none⟩ = some (.slice (some ⟨b, off, none⟩) zs.length cap)) (hc : ∀ j u, (nums .u32 zs)[j]? = some u → w.cell? ⟨b, off + j, none⟩ = some u) :
    SeqStopsK F n Tryz.prog 193 #[.pointer (some ⟨Bs, 0, none⟩)] (spotEnc (n := zs.length)) (KeepBox n₀ Bs) (fun ys => ys = spots zs hz zs.length) (fun pre => ∃ k, k ≤ zs.length ∧ pre = spots zs hz k) zs.length w := fun l J Jx W hW _ _ hY h0 =>
  backward1_in F n hf hro hn l Bs n₀ b off cap zs hz hreach hb J Jx hY W ((hW.cell (p := ⟨Bs, 0, none⟩) hBs).trans hBc) (fun j u hj => (hW.cell (p := ⟨b, off + j, none⟩) (by show b < _; omega)).trans (hc j u hj)) h0

/-! ### the plain law of the division by one limb -/
def smStep (d : Nat) (s : List Nat × Nat) (p : Nat × Nat) : List Nat × Nat := (s.1.set p.1 ((s.2 * 4294967296 + p.2) / d), (s.2 * 4294967296 + p.2) % d)
def smAll (n d : Nat) (pre : List (Nat × Nat)) : List Nat × Nat := pre.foldl (smStep d) (List.replicate n 0, 0)
theorem smAll_snoc (n d : Nat) (pre : List (Nat × Nat)) (p : Nat × Nat) : smAll n d (pre ++ [p]) = smStep d (smAll n d pre) p := by simp [smAll, List.foldl_append]
structure SmOk (n d : Nat) (s : List Nat × Nat) : Prop where
  len : s.1.length = n
  lt : AllLt s.1
  rest : s.2 < d
theorem quo_lt {r x d : Nat} (hr : r < d) (hx : x < 4294967296) : (r * 4294967296 + x) / d < 4294967296 := by
  refine Nat.div_lt_of_lt_mul ?_
  have h3 : (r + 1) * 4294967296 ≤ d * 4294967296 := Nat.mul_le_mul_right _ (by omega)
  omega
theorem SmOk.step {n d : Nat} {s : List Nat × Nat} (h : SmOk n d s) {p : Nat × Nat} (hx : p.2 < 4294967296) : SmOk n d (smStep d s p) :=
  ⟨by simp [smStep, h.len], h.lt.set _ _ (quo_lt h.rest hx), Nat.mod_lt _ (by have := h.rest; omega)⟩
theorem SmOk.all {n d : Nat} (hd : 0 < d) (pre : List (Spot n)) : SmOk n d (smAll n d (pre.map (·.1))) := by
  suffices h : ∀ s, SmOk n d s → SmOk n d ((pre.map (·.1)).foldl (smStep d) s) from h _ ⟨by simp, AllLt.replicate _, hd⟩
  induction pre with
  | nil => intro s h; exact h
  | cons x pre ih => intro s h; exact ih _ (h.step x.2.2)

theorem small_law (l : List Nat) (h : AllLt l) (d : Nat) (hd : 0 < d) (k : Nat) (hk : k ≤ l.length) :
    let s := smAll l.length d ((spots l h k).map (·.1))
    s.1.length = l.length ∧ val (s.1.drop (l.length - k)) * d + s.2 = val (l.drop (l.length - k)) ∧ s.2 < d := by
  induction k with
  | zero => simp only [spots, List.map_nil, smAll, List.foldl_nil]; exact ⟨by simp, by simp, hd⟩
  | succ k ih =>
    obtain ⟨i1, i2, i3⟩ := ih (by omega)
    simp only [spots, dif_pos (show k < l.length from hk), List.map_append, List.map_cons, List.map_nil, smAll_snoc]
    obtain ⟨s, hs⟩ : ∃ s, s = smAll l.length d ((spots l h k).map (·.1)) := ⟨_, rfl⟩
    rw [← hs] at i1 i2 i3 ⊢
    obtain ⟨j, hj⟩ : ∃ j, j = l.length - 1 - k := ⟨_, rfl⟩
    have e1 : l.length - (k + 1) = j := by omega
    have e2 : l.length - k = j + 1 := by omega
    rw [e2] at i2
    rw [e1, ← hj]
    have hjl : j < l.length := by omega
    obtain ⟨x, hx⟩ : ∃ x, l[j]? = some x := ⟨l[j], List.getElem?_eq_getElem hjl⟩
    have hg : l.getD j 0 = x := by rw [List.getD_eq_getElem?_getD, hx]; rfl
    refine ⟨by simp [smStep, i1], ?_, Nat.mod_lt _ hd⟩
    simp only [smStep, hg]
    rw [drop_cons (x := (s.2 * 4294967296 + x) / d) (by simp [i1, hjl]), List.drop_set_of_lt (by omega), drop_cons hx, ← i2]
    have h1 := Nat.div_add_mod' (s.2 * 4294967296 + x) d
    rw [Nat.add_mul, Nat.mul_assoc]
    omega
end Go.Proofs.YthncinngkfflgaaGreat


/- A region that draws its order, in a round of a range over a function: by the plain walk's own words. No program is in sight here. -/
set_option linter.unusedVariables false
set_option linter.unusedSimpArgs false
namespace Go.Proofs.YthncinngkfflgaaGreat
open Go.RowKit

/-- no operation is a defer statement -/
def noDefer (ops : Array Oper) : Bool := ops.toList.all fun o => match o.op with | .defer _ => false | _ => true
theorem noDefer_spec {ops : Array Oper} (h : noDefer ops = true) {i : Nat} {o : Oper} (ho : ops[i]? = some o) : ∀ c, o.op ≠ .defer c := by
  intro c hc
  have h1 := List.all_eq_true.1 h o (by have := Array.mem_of_getElem? ho; simpa using this)
  rw [hc] at h1
  cases h1

theorem rowsIn_wide {P : Program} {n : Nat} {row : String} {args : Array Value} {w : World} {R : Value → World → Prop} (h : Rows P row args w R) : RowsIn Fence.wide n P row args w R :=
  fun c cs _ => let ⟨v, w', r, s⟩ := h c cs; ⟨v, w', r, stepsIn_wide.2 s⟩

theorem wpIn_of_wp {P : Program} {n l : Nat} {o : Oper} {a : Act} {w : World} {K K' : Act → World → Prop} {Q : Exit → Act → World → Prop} (hd : ∀ c, o.op ≠ .defer c) (hQ : ∀ a w, ¬ Q .outgrown a w) (hK : ∀ a w, K a w → K' a w) (h : o.wp P a w K Q) :
    o.wpIn (Fence.wide.inRound l) n P a w K' Q := by
  refine ⟨fun _ _ => trivial, ?_⟩
  rw [Oper.semAt_eq _ _ _ hd]
  unfold Oper.wp at h
  generalize (execOp a.eval o).run P w = r at h
  cases r with
  | ok nx w' =>
    cases nx with
    | value v => exact hK _ _ h
    | skip => exact hK _ _ h
    | defer d => exact hK _ _ h
    | enter f args =>
      refine ⟨(fun hh => by cases hh), CallsIn.inRound l (callsIn_wide.2 (Calls.mono h fun e w'' he => ?_))⟩
      cases e with
      | returned v => exact hK _ _ he
      | panicked c => exact he
      | outgrown => exact he
    | row r args => exact ⟨(fun hh => by cases hh), fun c cs hr => (rowsIn_wide (Rows.mono h fun v w'' hv => hK _ _ hv)) c cs hr⟩
    | round l f tmps assign body => exact h.elim
    | _ => exact h.elim
  | halt x w' =>
    cases x with
    | panic v => exact h
    | _ => exact h.elim

theorem wpOpsIn_of_wpOps {P : Program} {n l : Nat} {ops : Array Oper} {Q : Exit → Act → World → Prop} (hd : noDefer ops = true) (hQ : ∀ a w, ¬ Q .outgrown a w) : ∀ (s : List Nat) (a : Act) (w : World), wpOps P ops Q s a w → wpOpsIn (Fence.wide.inRound l) n P ops Q s a w
  | [], _, _, h => h
  | i :: rest, a, w, h => by
    unfold wpOps at h
    unfold wpOpsIn
    split at h
    · rename_i ho; simp only [ho]; exact wpOpsIn_of_wpOps hd hQ rest a w h
    · rename_i o ho
      simp only [ho]
      split at h
      · rename_i hw
        rw [if_pos hw]
        rcases h with h | ⟨_, a0, w0, hq⟩
        · exact wpIn_of_wp (noDefer_spec hd ho) hQ (fun a w => wpOpsIn_of_wpOps hd hQ rest a w) h
        · exact (hQ _ _ hq).elim
      · rename_i hw
        rw [if_neg hw]
        exact ⟨fun _ _ => trivial, wpOpsIn_of_wpOps hd hQ rest _ w h⟩

theorem wpIn_region_round {P : Program} {n l id : Nat} {ops : Array Oper} {Q : Exit → Act → World → Prop} {a : Act} {w : World} {S : World → Prop} (hm : P.follows .mixedOrders = true) (hd : noDefer ops = true) (hQ : ∀ a w, ¬ Q .outgrown a w) (hS : S w.drew)
    (h : S w.drew → wpAnyH P .any ops Q S ops.size (Array.replicate ops.size false) a w.drew) : (Code.region id ops true).wpIn (Fence.wide.inRound l) n P Q a w := by
  refine wpIn_region_draw fun t => wpOpsIn_of_wpOps hd hQ _ _ _ ?_
  simp only [Region.schedule, hm, Bool.true_or, if_true]
  exact wpAny_sound ops.size t _ a _ (wpAny_of_held _ _ _ _ (h hS))
end Go.Proofs.YthncinngkfflgaaGreat
