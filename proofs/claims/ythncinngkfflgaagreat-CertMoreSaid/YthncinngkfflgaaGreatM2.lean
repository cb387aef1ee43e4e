import Derived.Test.YthncinngkfflgaaGreatM1
import Derived.Shelf.Small.Bits
import Derived.Test.YthncinngkfflgaaGreatProg

/- nat.Sub. -/
set_option linter.unusedVariables false
set_option linter.unusedSimpArgs false
set_option maxRecDepth 100000
namespace Go.Proofs.YthncinngkfflgaaGreat
open Go.RowKit

theorem wpList_make_u32 {w : World} {ops : Array Oper} {rest : List Oper} {o : Oper} {a : Act} {Q : Exit → Act → World → Prop}
    (hg : o.guard = none) (l : Operand) (hop : o.op = Op.makeSlice 33 l l) (L : Int) (n : Nat) (hl : a.eval l = .int .i64 L) (hL : L = (n : Int)) (b2 : n ≤ 4000000000)
    (hK : ∀ g w', w.heap.size ≤ g → Row w' g 133 (nums .u32 (List.replicate n 0)) → Later w w' → wpList Tryz.prog ops Q rest (a.put o.dst (.slice (some ⟨g, 0, none⟩) n n)) w') :
    wpList Tryz.prog ops Q (o :: rest) a w :=
  wpList_make_row hg l l _ hop 133 (.int .u32 0) 4 Tryz.underlying33 info_u32 rfl .i64 .i64 L L n hl hl hL hL (by omega) (by unfold maxLen; omega) (fun g w' h1 h2 h3 => hK g w' h1 (by rw [nums_replicate]; exact h2) h3)

theorem wrap_u32 {y : Nat} (h : y < 4294967296) : IntKind.u32.wrap (y : Int) = y := by simp [IntKind.wrap, IntKind.bits, IntKind.signed]; omega

theorem borrow_step (p t u v x y c : Nat) (h : u + v = t + p * c) (hx : x < 4294967296) (hy : y < 4294967296) (hc : c ≤ 1) :
    (u + p * ((x + 4294967296 - y - c) % 4294967296)) + (v + p * y) = (t + p * x) + (p * 4294967296) * (if x < y + c then 1 else 0) := by
  by_cases hb : x < y + c
  · rw [if_pos hb]
    have e : (x + 4294967296 - y - c) % 4294967296 = x + 4294967296 - y - c := by omega
    have e2 : x + 4294967296 - y - c + y + c = x + 4294967296 := by omega
    rw [e]
    have h2 : p * (x + 4294967296 - y - c) + p * y + p * c = p * x + p * 4294967296 := by
      rw [← Nat.mul_add, ← Nat.mul_add, e2, Nat.mul_add]
    omega
  · rw [if_neg hb]
    have e : (x + 4294967296 - y - c) % 4294967296 = x - y - c := by omega
    have e2 : x - y - c + y + c = x := by omega
    rw [e]
    have h2 : p * (x - y - c) + p * y + p * c = p * x := by
      rw [← Nat.mul_add, ← Nat.mul_add, e2]
    omega

theorem sub_done {a b o : List Nat} {n c : Nat} (ho : o.length = n) (hn : n = a.length) (hle : val b ≤ val a) (hb : val b < 4294967296 ^ n → val (b.take n) = val b) (hoa : AllLt o) (haa : AllLt a)
    (h : val (o.take n) + val (b.take n) = val (a.take n) + 4294967296 ^ n * c) : val o = val a - val b := by
  have h1 := val_lt haa
  rw [← hn] at h1
  have h2 := hb (by omega)
  have h3 := val_lt hoa
  rw [ho] at h3
  rw [List.take_of_length_le (l := o) (i := n) (by omega), List.take_of_length_le (l := a) (i := n) (by omega), h2] at h
  have h4 : c = 0 := by
    rcases Nat.eq_zero_or_pos c with h4 | h4
    · exact h4
    · have := Nat.mul_le_mul_left (4294967296 ^ n) h4
      omega
  subst h4
  omega
theorem take_of_lt {b : List Nat} {n : Nat} (h : val b < 4294967296 ^ n) : val (b.take n) = val b := by
  by_cases hn : n ≤ b.length
  · have h1 := val_take_drop b n hn
    rcases Nat.eq_zero_or_pos (val (b.drop n)) with h2 | h2
    · rw [h1, h2]; simp
    · have := Nat.mul_le_mul_left (4294967296 ^ n) h2
      omega
  · rw [List.take_of_length_le (by omega)]

set_option maxHeartbeats 1000000 in
/-- where the first isn't less -/
theorem sub_calls (w : World) (v u : Value) (a b : List Nat) (h : U32s w v a) (h' : U32s w u b) (ha : a.length ≤ 1000000000) (hb : b.length ≤ 1000000000) (hle : val b ≤ val a) :
    Calls Tryz.prog 166 #[v, u] w (Ret2 w fun w' v' t => t = .bool true ∧ Own32 133 w' w.heap.size v' (limbs (val a - val b))) := by
  have H2 := hide h'
  have HC := hide (cmp_calls w v u a b h h' (by omega) (by omega))
  obtain ⟨A, cap, rfl, hcap, hcm, hlt, hc⟩ := h.form
  have HH := hide h
  clear h h'
  obtain ⟨n, hn⟩ : ∃ n, n = a.length := ⟨_, rfl⟩
  rw [← hn] at HC HH hcap ha; rw [← hn]
  have HN := hide hn; clear hn
  have hcn : decide (cmpN (val a) (val b) < 0) = false := by rw [decide_eq_false_iff_not, cmpN_neg]; omega
  go_enter Tryz.func166, Tryz.ntmps166
  go_wp2_with fail
  refine HC.out.mono ?_
  rintro e w1 ⟨rfl, hb1⟩
  go_wp2_with (at_make; refine wpList_make_u32 rfl (.tmp 14) rfl _ n rfl rfl (by omega) ?_; intro g w2 hg2 hr2 hb2)
  have hb12 := hb1.trans hb2
  go_loopw [18, 7] (fun i c wr => ∃ k cc o, k ≤ n ∧ cc ≤ 1 ∧ i = .int .i64 ((k : Nat) : Int) ∧ c = .int .u32 ((cc : Nat) : Int) ∧ Hid (o.length = n ∧ AllLt o ∧ val (o.take k) + val (b.take k) = val (a.take k) + 4294967296 ^ k * cc) ∧ Row wr g 133 (nums .u32 o) ∧ Later w wr) (fun i _ _ => (n - intOf i).toNat)
  case atStart => exact ⟨0, 0, _, by omega, by omega, rfl, rfl, hide ⟨by simp, AllLt.replicate _, by simp⟩, hr2, hb12⟩
  case round =>
    obtain ⟨k, cc, o, hk, hcc, rfl, rfl, ho, hr, hb⟩ := hrel
    by_cases hkn : k < n
    · obtain ⟨b1, o1, x, rfl, hx, hxl, hcx0⟩ := limb_at hc hlt (k := k) (by rw [← HN.out]; exact hkn)
      have hcx := hb.cell hcx0
      have hb1g : b1 < g := by have h1 := World.block_lt_of_cell? w _ hcx0; have h2 := hb1.size; simp at h1; omega
      clear hcx0
      obtain ⟨y, hy⟩ : ∃ y, b.getD k 0 = y := ⟨_, rfl⟩
      have hyl : y < 4294967296 := hy ▸ getD_lt H2.out.1 k
      have HY := hide hy; clear hy
      obtain ⟨z, -, hzc, hzf⟩ := row_cell hr (k := k) (by rw [ho.out.1]; omega)
      obtain ⟨d, hd⟩ : ∃ d, (x + 4294967296 - y - cc) % 4294967296 = d := ⟨_, rfl⟩
      obtain ⟨bo, hbo⟩ : ∃ bo, (if x < y + cc then 1 else 0) = bo := ⟨_, rfl⟩
      have hbol : bo ≤ 1 := by rw [← hbo]; split <;> omega
      have hdl : d < 4294967296 := by omega
      have HDD := hide hd; have HBO := hide hbo; clear hd hbo
      have hge := hide (hg2)
      have hwy := wrap_u32 hyl
      have hst : ∀ u, (wr.setCell ⟨g, k, none⟩ u).drew.cell? ⟨b1, o1 + k, none⟩ = some (.int .u32 (x : Int)) := fun u => (World.cell?_setCell_other wr ⟨g, k, none⟩ ⟨b1, o1 + k, none⟩ u (by intro e; injection e with e1; omega)).trans hcx
      have HST := hide hst; clear hst
      go_wp2_with fail
      go_region_held3 (fun w' => w'.cell? ⟨b1, o1 + k, none⟩ = some (.int .u32 (x : Int))) (first | exact hcx | exact HST.out _ | (simp [go_sem, hcx]; done)) (first
        | ((with_reducible refine (limb_calls' _ _ b k y (H2.out.later hb) (by omega) HY.out).mono ?_); rintro e w' ⟨rfl, rfl⟩)
        | ((with_reducible refine (limb_calls' _ _ b k y (H2.out.later (hb.drew)) (by omega) HY.out).mono ?_); rintro e w' ⟨rfl, rfl⟩)
        | ((with_reducible refine (sub32_calls x y cc d bo hxl hyl hcc _ HDD.out HBO.out).mono ?_); rintro e w' ⟨rfl, rfl⟩))
      clear hwy
      go_wp2_with fail
      go_roundw
      case rel =>
        refine ⟨k+1, bo, o.set k d, by omega, hbol, by go_num, rfl, hide ⟨by simp [ho.out.1], ho.out.2.1.set _ _ hdl, ?_⟩, Row.drew (row_set hr), (hb.setCell (p := ⟨g, k, none⟩) (Nat.le_trans hb1.size hg2) _).drew⟩
        have hxg : a.getD k 0 = x := by rw [List.getD_eq_getElem?_getD, hx.out]; rfl
        rw [val_set_take _ _ _ (by rw [ho.out.1]; omega), Nat.pow_succ, val_take_succ, val_take_succ, hxg, HY.out, ← HDD.out, ← HBO.out]
        exact borrow_step _ _ _ _ x y cc ho.out.2.2 hxl hyl hcc
      case measure => simp [intOf]; omega
    · obtain rfl : k = n := by omega
      have HD := hide (sub_done ho.out.1 HN.out hle take_of_lt ho.out.2.1 hlt ho.out.2.2)
      have HO := hide (show Own32 133 wr w.heap.size (.slice (some ⟨g, 0, none⟩) k k) o from ⟨ho.out.2.1, OwnNums.of_row hr (Nat.le_trans hb1.size hg2) ho.out.1 (by unfold maxLen; omega)⟩)
      have HL := hide (show o.length ≤ 2000000000 by rw [ho.out.1]; omega)
      have HT := hide hb
      clear hr ho
      go_wp2_with ((with_reducible refine (trim_calls _ _ _ HO.out.reads HL.out).mono ?_); rintro e w' ⟨v', rfl, ov, bv⟩)
      go_ret2
      exact ⟨_, _, rfl, ⟨rfl, by rw [← HD.out]; exact ov.weaken HT.out.size⟩, HT.out.trans bv⟩

set_option maxHeartbeats 400000 in
/-- where the first is less -/
theorem sub_less (w : World) (v u : Value) (a b : List Nat) (h : U32s w v a) (h' : U32s w u b) (ha : a.length ≤ 1000000000) (hb : b.length ≤ 1000000000) (hlt : val a < val b) :
    Calls Tryz.prog 166 #[v, u] w (Ret2 w fun w' v' t => t = .bool false ∧ v' = .slice none 0 0) := by
  have HC := hide (cmp_calls w v u a b h h' (by omega) (by omega))
  have hcn : decide (cmpN (val a) (val b) < 0) = true := by rw [decide_eq_true_iff, cmpN_neg]; omega
  go_enter Tryz.func166, Tryz.ntmps166
  go_wp2_with fail
  refine HC.out.mono ?_
  rintro e w1 ⟨rfl, hb1⟩
  go_wp2_with fail
  go_ret2
  exact ⟨_, _, rfl, ⟨rfl, rfl⟩, hb1⟩
end Go.Proofs.YthncinngkfflgaaGreat


/- nat.Mul. -/
set_option linter.unusedVariables false
set_option linter.unusedSimpArgs false
set_option maxRecDepth 100000
namespace Go.Proofs.YthncinngkfflgaaGreat
open Go.RowKit

theorem mul_bound {x y : Nat} (hx : x < 4294967296) (hy : y < 4294967296) : x * y ≤ 18446744065119617025 := by
  have h1 : x * y ≤ 4294967295 * 4294967295 := Nat.mul_le_mul (by omega) (by omega)
  omega
theorem wrap_u64 {y : Nat} (h : y < 18446744073709551616) : IntKind.u64.wrap (y : Int) = y := by simp [IntKind.wrap, IntKind.bits, IntKind.signed]; omega
theorem wrap_mul {x y p : Nat} (hp : x * y = p) (h : p ≤ 18446744065119617025) : IntKind.u64.wrap ((x : Int) * (y : Int)) = p := by
  have : ((x : Int) * (y : Int)) = ((p : Nat) : Int) := by rw [← hp]; simp
  rw [this]; exact wrap_u64 (by omega)

/-- a row of the product, so far -/
structure MulRow (o0 o b : List Nat) (i k x c : Nat) : Prop where
  len : o.length = o0.length
  lt : AllLt o
  sum : val (o.take (i + k)) + 4294967296 ^ (i + k) * c = val (o0.take (i + k)) + 4294967296 ^ i * (x * val (b.take k))
  rest : o.drop (i + k) = o0.drop (i + k)

theorem drop_getD {o o0 : List Nat} {n : Nat} (h : o.drop n = o0.drop n) : o.getD n 0 = o0.getD n 0 := by
  have h1 : (o.drop n)[0]? = (o0.drop n)[0]? := by rw [h]
  rw [List.getElem?_drop, List.getElem?_drop, Nat.add_zero] at h1
  rw [List.getD_eq_getElem?_getD, List.getD_eq_getElem?_getD, h1]
theorem drop_succ {o o0 : List Nat} {n : Nat} (h : o.drop n = o0.drop n) : o.drop (n+1) = o0.drop (n+1) := by
  rw [Nat.add_comm, ← List.drop_drop, ← List.drop_drop]
  have : ∀ l : List Nat, List.drop n (List.drop 1 l) = List.drop 1 (List.drop n l) := by intro l; rw [List.drop_drop, List.drop_drop, Nat.add_comm]
  rw [this, this, h]

theorem MulRow.start {o0 b : List Nat} {i x : Nat} (h : AllLt o0) : MulRow o0 o0 b i 0 x 0 := ⟨rfl, h, by simp, rfl⟩

theorem MulRow.step {o0 o b : List Nat} {i k x c y z s : Nat} (h : MulRow o0 o b i k x c) (hk : i + k < o.length) (hy : b.getD k 0 = y) (hz : o[i+k]? = some z) (hs : s = c + (x * y + z)) :
    MulRow o0 (o.set (i + k) (s % 4294967296)) b i (k+1) x (s / 4294967296) := by
  have hz0 : o0.getD (i+k) 0 = z := by rw [← drop_getD h.rest, List.getD_eq_getElem?_getD, hz]; rfl
  refine ⟨by simp [h.len], h.lt.set _ _ (Nat.mod_lt _ (by omega)), ?_, ?_⟩
  · rw [← Nat.add_assoc, val_set_take _ _ _ hk, val_take_succ, val_take_succ, hy, hz0]
    have e1 := Nat.mod_add_div s 4294967296
    have e2 : 4294967296 ^ (i+k) * (s % 4294967296) + 4294967296 ^ (i+k+1) * (s / 4294967296) = 4294967296 ^ (i+k) * s := by
      rw [Nat.pow_succ, Nat.mul_assoc, ← Nat.mul_add, e1]
    have e3 : 4294967296 ^ (i+k) * s = 4294967296 ^ (i+k) * c + 4294967296 ^ i * (x * (4294967296 ^ k * y)) + 4294967296 ^ (i+k) * z := by
      rw [hs, Nat.mul_add, Nat.mul_add, Nat.pow_add, Nat.add_assoc]
      congr 2
      rw [Nat.mul_assoc]; congr 1
      rw [← Nat.mul_assoc, ← Nat.mul_assoc, Nat.mul_comm (4294967296 ^ k) x]
    have h3 := h.sum
    rw [Nat.mul_add x, Nat.mul_add]
    omega
  · rw [← Nat.add_assoc]
    rw [List.drop_set_of_lt (by omega)]
    exact drop_succ h.rest

/-- the product, so far -/
structure MulAll (a b o : List Nat) (i : Nat) : Prop where
  len : o.length = a.length + b.length
  lt : AllLt o
  sum : val (o.take (i + b.length)) = val (a.take i) * val b
  rest : val (o.drop (i + b.length)) = 0

theorem MulAll.start (a b : List Nat) : MulAll a b (List.replicate (a.length + b.length) 0) 0 :=
  ⟨by simp, AllLt.replicate _, by rw [List.take_replicate, val_replicate]; simp, by rw [List.drop_replicate, val_replicate]⟩
theorem MulAll.step {a b o0 o : List Nat} {i x c : Nat} (h : MulAll a b o0 i) (hi : i < a.length) (hx : a[i]? = some x) (hr : MulRow o0 o b i b.length x c) (hc : c < 4294967296) : MulAll a b (o.set (i + b.length) c) (i+1) := by
  have hlen := h.len; have hl2 := hr.len
  refine ⟨by simp [hl2, hlen], hr.lt.set _ _ hc, ?_, ?_⟩
  · rw [Nat.add_right_comm i 1, val_set_take _ _ _ (by omega), hr.sum, h.sum, val_take_succ, List.take_of_length_le (Nat.le_refl _), List.getD_eq_getElem?_getD, hx, Nat.add_mul, Nat.mul_assoc]; rfl
  · rw [Nat.add_right_comm i 1, List.drop_set_of_lt (by omega), drop_succ hr.rest]
    have h1 := h.rest
    rw [List.drop_eq_getElem_cons (by omega), val_cons] at h1
    omega
theorem MulAll.done {a b o : List Nat} (h : MulAll a b o a.length) : val o = val a * val b := by
  have h1 := h.sum
  rwa [List.take_of_length_le (by rw [h.len]; exact Nat.le_refl _), List.take_of_length_le (Nat.le_refl _)] at h1

set_option maxHeartbeats 1000000 in
theorem mul_calls (w : World) (v u : Value) (a b : List Nat) (h : U32s w v a) (h' : U32s w u b) (ha : a.length ≤ 1000000000) (hb : b.length ≤ 1000000000) :
    Calls Tryz.prog 152 #[v, u] w (Ret w fun w' v' => Own32 133 w' w.heap.size v' (limbs (val a * val b))) := by
  obtain ⟨A, cap, rfl, hcap, hcm, hlt, hc⟩ := h.form
  obtain ⟨A', cap', rfl, hcap', hcm', hlt', hc'⟩ := h'.form
  obtain ⟨na, hna⟩ : ∃ na, na = a.length := ⟨_, rfl⟩
  obtain ⟨nb, hnb⟩ : ∃ nb, nb = b.length := ⟨_, rfl⟩
  rw [← hna] at ha; rw [← hnb] at hb
  rw [← hna, ← hnb]
  have HS := hide (MulAll.start a b)
  rw [← hna, ← hnb] at HS
  have HNA := hide hna; have HNB := hide hnb; clear hna hnb h h' hcap hcap'
  go_enter Tryz.func152, Tryz.ntmps152
  go_wp2_with (at_make; refine wpList_make_u32 rfl (.tmp 15) rfl _ (na + nb) rfl (Int.natCast_add _ _).symm (by omega) ?_; intro g w1 hg1 hr1 hb1)
  go_loopw [19] (fun i wr => ∃ k o, k ≤ na ∧ i = .int .i64 ((k : Nat) : Int) ∧ Hid (MulAll a b o k) ∧ Row wr g 133 (nums .u32 o) ∧ Later w wr) (fun i _ => (na - intOf i).toNat)
  case atStart => exact ⟨0, _, by omega, rfl, HS, hr1, hb1⟩
  case round =>
    obtain ⟨i, o0, hi, rfl, hm, hr, hb0⟩ := hrel
    by_cases hin : i < na
    · obtain ⟨b1, o1, x, rfl, hx, hxl, hcx⟩ := limb_at (hc.later hb0) hlt (k := i) (by rw [← HNA.out]; exact hin)
      obtain ⟨wo, hwo⟩ : ∃ wo : World, wo = wr := ⟨_, rfl⟩
      subst hwo
      go_wp2_with fail
      go_loopw [26, 8] (fun j c wr => ∃ k cc o, k ≤ nb ∧ cc < 4294967296 ∧ j = .int .i64 ((k : Nat) : Int) ∧ c = .int .u64 ((cc : Nat) : Int) ∧ Hid (MulRow o0 o b i k x cc) ∧ Row wr g 133 (nums .u32 o) ∧ Later w wr) (fun j _ _ => (nb - intOf j).toNat)
      case atStart => exact ⟨0, 0, o0, by omega, by omega, rfl, rfl, hide (MulRow.start hm.out.lt), hr, hb0⟩
      case round =>
        clear hr hcx
        obtain ⟨k, cc, o, hk, hcc, rfl, rfl, hmr, hr, hb2⟩ := hrel
        have hol : Hid (o.length = na + nb) := hide (by rw [hmr.out.len, hm.out.len, HNA.out, HNB.out])
        by_cases hkn : k < nb
        · obtain ⟨b2, o2, y, rfl, hy, hyl, hcy⟩ := limb_at (hc'.later hb2) hlt' (k := k) (by rw [← HNB.out]; exact hkn)
          obtain ⟨z, hz, hzc, hzf⟩ := row_cell hr (k := i + k) (by rw [hol.out]; omega)
          have hzl : z < 4294967296 := hmr.out.lt.at_ hz.out
          obtain ⟨p, hp⟩ : ∃ p, x * y = p := ⟨_, rfl⟩
          have hpb : p ≤ 18446744065119617025 := hp ▸ mul_bound hxl hyl
          have hwp := wrap_mul hp hpb
          have HP := hide hp; clear hp
          go_wp2_with fail
          go_roundw
          case rel =>
            have hst := hmr.out.step (y := y) (s := cc + (p + z)) (by rw [hol.out]; omega) (by rw [List.getD_eq_getElem?_getD, hy.out]; rfl) hz.out (by rw [HP.out])
            refine ⟨k+1, (cc + (p + z)) / 4294967296, _, by omega, by omega, by go_num, by go_num, hide hst, ?_, hb2.setCell (p := ⟨g, i + k, none⟩) hg1 _⟩
            have e : (((cc : Int) + (p + z)) % 4294967296) = (((cc + (p + z)) % 4294967296 : Nat) : Int) := by omega
            rw [e]; exact row_set hr
          case measure => simp [intOf]; omega
        · obtain rfl : k = nb := by omega
          obtain ⟨z, hz, hzc, hzf⟩ := row_cell hr (k := i + k) (by rw [hol.out]; omega)
          have HST := hide (hm.out.step (c := cc) (by rw [← HNA.out]; exact hin) hx.out (by rw [← HNB.out]; exact hmr.out) hcc)
          rw [← HNB.out] at HST
          have e : (cc : Int) % 4294967296 = cc := by omega
          go_wp2_with fail
          go_roundw
          case rel =>
            refine ⟨i+1, _, by omega, by go_num, HST, ?_, hb2.setCell (p := ⟨g, i + k, none⟩) hg1 _⟩
            exact row_set hr
          case measure => simp [intOf]; omega
    · obtain rfl : i = na := by omega
      have HD := hide (MulAll.done (by rw [← HNA.out]; exact hm.out))
      have hol : Hid (o0.length = i + nb) := hide (by rw [hm.out.len, HNA.out, HNB.out])
      have HO := hide (show Own32 133 wr w.heap.size (.slice (some ⟨g, 0, none⟩) (i + nb) (i + nb)) o0 from ⟨hm.out.lt, OwnNums.of_row hr hg1 hol.out (by unfold maxLen; omega)⟩)
      have HL := hide (show o0.length ≤ 2000000000 by rw [hol.out]; omega)
      have HT := hide hb0
      clear hr hm
      go_wp2_with ((with_reducible refine (trim_calls _ _ _ HO.out.reads HL.out).mono ?_); rintro e w' ⟨v', rfl, ov, bv⟩)
      go_ret
      exact ⟨_, rfl, by rw [← HD.out]; exact ov.weaken HT.out.size, HT.out.trans bv⟩
end Go.Proofs.YthncinngkfflgaaGreat


/- math/bits.Len32 and LeadingZeros32, by the library's contracts. -/
set_option linter.unusedVariables false
namespace Go.Proofs.YthncinngkfflgaaGreat
open Go.Shelf
def lays128_ren : Go.Shelf.Ren := ⟨fun | 128 => 194 | n => n, fun | 51 => 133 | 3 => 3 | 4 => 4 | 46 => 153 | 5 => 5 | 9 => 9 | n => n, fun | n => n⟩
theorem lays128 : Go.Proofs.Lays.n128 Tryz.prog lays128_ren := {
  mixed := by kernel_rfl
  f128 := Tryz.func194.trans (congrArg some (by kernel_rfl))
  t3 := Tryz.underlying3
  a3 := Tryz.isAgg3
  z3 := Tryz.sizeOf3
  v3 := Tryz.zeroValue3
  t4 := Tryz.underlying4
  a4 := Tryz.isAgg4
  z4 := Tryz.sizeOf4
  v4 := Tryz.zeroValue4
  t5 := Tryz.underlying5
  a5 := Tryz.isAgg5
  z5 := Tryz.sizeOf5
  v5 := Tryz.zeroValue5
  t9 := Tryz.underlying9
  a9 := Tryz.isAgg9
  z9 := Tryz.sizeOf9
  v9 := Tryz.zeroValue9
  t46 := Tryz.underlying153
  a46 := Tryz.isAgg153
  z46 := Tryz.sizeOf153
  v46 := Tryz.zeroValue153
  t51 := Tryz.underlying133
  a51 := Tryz.isAgg133
  z51 := Tryz.sizeOf133
  v51 := Tryz.zeroValue133 }
theorem bits_Len32 (x : Int) (w : World) (h0 : 0 ≤ x) (h1 : x ≤ 4294967295) :
    Calls Tryz.prog 194 #[.int .u32 x] w fun e w' => e = .returned (.int .i64 (Lib.bitLen x.toNat)) ∧ w' = w := Any.bits_Len32 lays128 x w h0 h1
def lays133_ren : Go.Shelf.Ren := ⟨fun | 133 => 187 | 128 => 194 | n => n, fun | 51 => 133 | 3 => 3 | 4 => 4 | 46 => 153 | 5 => 5 | 9 => 9 | n => n, fun | n => n⟩
theorem lays133 : Go.Proofs.Lays.n133 Tryz.prog lays133_ren := {
  mixed := by kernel_rfl
  f128 := Tryz.func194.trans (congrArg some (by kernel_rfl))
  f133 := Tryz.func187.trans (congrArg some (by kernel_rfl))
  t3 := Tryz.underlying3
  a3 := Tryz.isAgg3
  z3 := Tryz.sizeOf3
  v3 := Tryz.zeroValue3
  t4 := Tryz.underlying4
  a4 := Tryz.isAgg4
  z4 := Tryz.sizeOf4
  v4 := Tryz.zeroValue4
  t5 := Tryz.underlying5
  a5 := Tryz.isAgg5
  z5 := Tryz.sizeOf5
  v5 := Tryz.zeroValue5
  t9 := Tryz.underlying9
  a9 := Tryz.isAgg9
  z9 := Tryz.sizeOf9
  v9 := Tryz.zeroValue9
  t46 := Tryz.underlying153
  a46 := Tryz.isAgg153
  z46 := Tryz.sizeOf153
  v46 := Tryz.zeroValue153
  t51 := Tryz.underlying133
  a51 := Tryz.isAgg133
  z51 := Tryz.sizeOf133
  v51 := Tryz.zeroValue133 }
theorem bits_LeadingZeros32 (x : Int) (w : World) (h0 : 0 ≤ x) (h1 : x ≤ 4294967295) :
    Calls Tryz.prog 187 #[.int .u32 x] w fun e w' => e = .returned (.int .i64 (32 - (Lib.bitLen x.toNat : Int))) ∧ w' = w := Any.bits_LeadingZeros32 lays133 x w h0 h1
end Go.Proofs.YthncinngkfflgaaGreat


/- math/bits.Div32, nat.shift, nat.guess, nat.less, nat.back. -/
set_option linter.unusedVariables false
set_option linter.unusedSimpArgs false
set_option maxRecDepth 100000
namespace Go.Proofs.YthncinngkfflgaaGreat
open Go.RowKit

theorem or_u64 {h l : Nat} (hh : h < 4294967296) (hl : l < 4294967296) : bits .or .u64 ((h : Int) * 4294967296) (l : Int) = ((h * 4294967296 + l : Nat) : Int) := by
  have wr : ∀ n : Int, 0 ≤ n → n < 2 ^ 64 → IntKind.u64.wrap n = n := by
    intro n h0 h1; simp [IntKind.wrap, IntKind.bits, IntKind.signed]; omega
  have e := bits_join .u64 64 (Nat.le_refl _) wr 32 ((h : Int) * 4294967296) (l : Int) (by omega) (by omega) (by omega) (by omega) (by omega) (by omega)
  rw [e]; simp

set_option maxHeartbeats 400000 in
theorem div32_calls (hi lo y : Nat) (hh : hi < y) (hl : lo < 4294967296) (hy : y < 4294967296) (w : World) :
    Calls Tryz.prog 186 #[.int .u32 hi, .int .u32 lo, .int .u32 y] w fun e w' => e = .returned (.tuple #[.int .u32 ((hi * 4294967296 + lo) / y : Nat), .int .u32 ((hi * 4294967296 + lo) % y : Nat)]) ∧ ∃ nq, w' = w.drewN nq := by
  have h1 : decide ((y : Int) ≤ hi) = false := by simp; omega
  have h2 : ((y : Int) != 0) = true := by simp; omega
  have ho := or_u64 (h := hi) (l := lo) (by omega) hl
  go_enter Tryz.func186, Tryz.ntmps186
  go_wp2
  obtain ⟨z, hz⟩ : ∃ z, z = hi * 4294967296 + lo := ⟨_, rfl⟩
  have hzi : ((hi : Int) * 4294967296 + lo) = ((z : Nat) : Int) := by omega
  have hq : z / y < 4294967296 := by
    have : z < 4294967296 * y := by
      have h3 : (hi + 1) * 4294967296 ≤ y * 4294967296 := Nat.mul_le_mul_right _ (by omega)
      omega
    exact Nat.div_lt_of_lt_mul (by rw [Nat.mul_comm]; exact this)
  have hr : z % y < y := Nat.mod_lt _ (by omega)
  have e1 : (z : Int) / y = ((z / y : Nat) : Int) := (Int.natCast_ediv z y).symm
  have e2 : (z : Int) % y = ((z % y : Nat) : Int) := (Int.natCast_emod z y).symm
  have hq' : (z : Int) / y < 4294967296 := by rw [e1]; omega
  have hq0 : 0 ≤ (z : Int) / y := by rw [e1]; exact Int.natCast_nonneg _
  have hr' : (z : Int) % y < 4294967296 := by rw [e2]; omega
  have hr0 : 0 ≤ (z : Int) % y := by rw [e2]; exact Int.natCast_nonneg _
  have E1 := hide e1; have E2 := hide e2; clear e1 e2
  have hy0 : 0 < y := by omega
  have hzl : (z : Int) < 18446744073709551616 := by omega
  rw [hzi]
  have HZ := hide hz; clear hz hzi ho hq hr
  go_quiet (fail)
  go_wp2
  go_ret2
  refine ⟨?_, _, rfl⟩
  rw [← HZ.out, ← E1.out, ← E2.out]; rfl

theorem pow32 {s : Nat} (hs : s < 32) : 4294967296 = 2 ^ s * 2 ^ (32 - s) := by
  have h : s + (32 - s) = 32 := by omega
  rw [← Nat.pow_add, h]
theorem shl_mod {x s p : Nat} (hs : s < 32) (hp : x * 2 ^ s = p) : p % 4294967296 = 2 ^ s * (x % 2 ^ (32 - s)) := by
  rw [← hp, pow32 hs, Nat.mul_comm x, Nat.mul_mod_mul_left]
theorem shl_facts {x s p z : Nat} (hs : s < 32) (hx : x < 4294967296) (hp : x * 2 ^ s = p) (hz : z < 2 ^ s) :
    p < 18446744073709551616 ∧ p / 4294967296 < 2 ^ s ∧ z + p % 4294967296 < 4294967296 ∧ 2 ^ s ≤ 2147483648 := by
  have h31 : 2 ^ s ≤ 2 ^ 31 := Nat.pow_le_pow_right (by omega) (by omega)
  have h1 : p < 4294967296 * 2 ^ s := by rw [← hp]; exact Nat.mul_lt_mul_of_pos_right hx (Nat.two_pow_pos s)
  have h2 : p / 4294967296 < 2 ^ s := Nat.div_lt_of_lt_mul h1
  have h3 := shl_mod hs hp
  have h4 : x % 2 ^ (32 - s) < 2 ^ (32 - s) := Nat.mod_lt _ (Nat.two_pow_pos _)
  have h5 : 2 ^ s * (x % 2 ^ (32 - s)) + 2 ^ s ≤ 2 ^ s * 2 ^ (32 - s) := by
    rw [← Nat.mul_succ]; exact Nat.mul_le_mul_left _ h4
  rw [← pow32 hs] at h5
  refine ⟨by omega, h2, by omega, h31⟩
theorem or_shl {x s p z : Nat} (hs : s < 32) (hx : x < 4294967296) (hp : x * 2 ^ s = p) (hz : z < 2 ^ s) : bits .or .u32 (z : Int) ((p : Int) % 4294967296) = ((z + p % 4294967296 : Nat) : Int) := by
  obtain ⟨_, _, h3, _⟩ := shl_facts hs hx hp hz
  have e : (p : Int) % 4294967296 = ((p % 4294967296 : Nat) : Int) := by omega
  rw [e, (bits32 z (p % 4294967296) (by omega) (by omega)).2.1, shl_mod hs hp, Nat.or_comm, ← Nat.two_pow_add_eq_or_of_lt hz]
  congr 1; omega
theorem shift_step {a o : List Nat} {k n s x z p : Nat} (ho : o.length = n + 1 ∧ AllLt o ∧ val (o.take (k+1)) = val (a.take k) * 2 ^ s ∧ o.getD k 0 < 2 ^ s) (hk : k < n) (hx : a[k]? = some x) (hxl : x < 4294967296) (hz : o[k]? = some z) (hs : s < 32) (hp : x * 2 ^ s = p) :
    ((o.set k (z + p % 4294967296)).set (k+1) (p / 4294967296)).length = n + 1 ∧ AllLt ((o.set k (z + p % 4294967296)).set (k+1) (p / 4294967296)) ∧ val (((o.set k (z + p % 4294967296)).set (k+1) (p / 4294967296)).take (k+1+1)) = val (a.take (k+1)) * 2 ^ s ∧ ((o.set k (z + p % 4294967296)).set (k+1) (p / 4294967296)).getD (k+1) 0 < 2 ^ s := by
  obtain ⟨h1, h2, h3, h4⟩ := ho
  have hzs : z < 2 ^ s := by rw [List.getD_eq_getElem?_getD, hz] at h4; simpa using h4
  obtain ⟨f1, f2, f3, f4⟩ := shl_facts hs hxl hp hzs
  refine ⟨by simp [h1], (h2.set _ _ f3).set _ _ (by omega), ?_, ?_⟩
  · rw [val_set_take _ _ _ (by simp [h1]; omega), val_set_take _ _ _ (by omega)]
    have e1 := val_take_succ o k
    rw [List.getD_eq_getElem?_getD, hz, h3] at e1
    rw [val_take_succ a k, List.getD_eq_getElem?_getD, hx]
    simp only [Option.getD_some] at e1 ⊢
    have e2 : 4294967296 ^ k * (p % 4294967296) + 4294967296 ^ (k+1) * (p / 4294967296) = 4294967296 ^ k * x * 2 ^ s := by
      rw [Nat.pow_succ, Nat.mul_assoc, ← Nat.mul_add, Nat.mod_add_div, ← hp, Nat.mul_assoc]
    rw [Nat.add_mul, Nat.mul_add]
    omega
  · rw [List.getD_eq_getElem?_getD, List.getElem?_set, if_pos rfl, if_pos (by simp [h1]; omega)]; simpa using f2

set_option maxHeartbeats 1000000 in
theorem shift_calls (w : World) (v : Value) (a : List Nat) (s : Nat) (h : U32s w v a) (ha : a.length ≤ 1000000000) (hs : s < 32) :
    Calls Tryz.prog 188 #[v, .int .i64 s] w (Ret w fun w' v' => ∃ o, Own32 133 w' w.heap.size v' o ∧ o.length = a.length + 1 ∧ val o = val a * 2 ^ s) := by
  obtain ⟨A, cap, rfl, hcap, hcm, hlt, hc⟩ := h.form
  obtain ⟨n, hn⟩ : ∃ na, na = a.length := ⟨_, rfl⟩
  rw [← hn] at ha; rw [← hn]
  have HN := hide hn; clear hn h hcap
  go_enter Tryz.func188, Tryz.ntmps188
  go_wp2_with (at_make; refine wpList_make_u32 rfl (.tmp 11) rfl _ (n+1) rfl (Int.natCast_succ _).symm (by omega) ?_; intro g w1 hg1 hr1 hb1)
  go_loopw [15] (fun i wr => ∃ k o, k ≤ n ∧ i = .int .i64 ((k : Nat) : Int) ∧ Hid (o.length = n + 1 ∧ AllLt o ∧ val (o.take (k+1)) = val (a.take k) * 2 ^ s ∧ o.getD k 0 < 2 ^ s) ∧ Row wr g 133 (nums .u32 o) ∧ Later w wr) (fun i _ => (n - intOf i).toNat)
  case atStart => exact ⟨0, _, by omega, rfl, hide ⟨by simp, AllLt.replicate _, by simp [List.take_replicate, val_replicate], by simp [List.getD_eq_getElem?_getD]; exact Nat.two_pow_pos s⟩, hr1, hb1⟩
  case round =>
    obtain ⟨k, o, hk, rfl, ho, hr, hb⟩ := hrel
    by_cases hkn : k < n
    · obtain ⟨b1, o1, x, rfl, hx, hxl, hcx⟩ := limb_at (hc.later hb) hlt (k := k) (by rw [← HN.out]; exact hkn)
      obtain ⟨z, hz, hzc, hzf⟩ := row_cell hr (k := k) (by rw [ho.out.1]; omega)
      obtain ⟨z', -, hzc', hzf'⟩ := row_cell hr (k := k+1) (by rw [ho.out.1]; omega)
      obtain ⟨p, hp⟩ : ∃ p, x * 2 ^ s = p := ⟨_, rfl⟩
      have hzs : z < 2 ^ s := by have h4 := ho.out.2.2.2; rw [List.getD_eq_getElem?_getD, hz.out] at h4; simpa using h4
      have hfacts := shl_facts hs hxl hp hzs
      have hwp : IntKind.u64.wrap ((x : Int) * 2 ^ s) = ((p : Nat) : Int) := by
        have e : ((x : Int) * 2 ^ s) = ((p : Nat) : Int) := by rw [← hp]; simp
        rw [e]; exact wrap_u64 hfacts.1
      have hor := or_shl hs hxl hp hzs
      have HST := hide (shift_step ho.out hkn hx.out hxl hz.out hs hp)
      have hpl : p < 18446744073709551616 := hfacts.1
      clear hp hzs hfacts
      go_wp2_with fail
      go_roundw
      case rel =>
        refine ⟨k+1, _, by omega, by go_num, HST, ?_, (hb.setCell (p := ⟨g, k, none⟩) hg1 _).setCell (p := ⟨g, k+1, none⟩) hg1 _⟩
        have e1 : ((z : Int) + (p : Int) % 4294967296) = ((z + p % 4294967296 : Nat) : Int) := by omega
        have e2 : (p : Int) / 4294967296 = ((p / 4294967296 : Nat) : Int) := by omega
        rw [e1, e2]; exact row_set (row_set hr)
      case measure => simp [intOf]; omega
    · obtain rfl : k = n := by omega
      have hf : Hid (val o = val a * 2 ^ s) := hide (by
        have h := ho.out.2.2.1
        rwa [List.take_of_length_le (by rw [ho.out.1]; exact Nat.le_refl _), List.take_of_length_le (by rw [← HN.out]; exact Nat.le_refl _)] at h)
      go_wp2_with fail
      go_ret
      exact ⟨_, rfl, ⟨o, ⟨ho.out.2.1, OwnNums.of_row hr hg1 ho.out.1 (by unfold maxLen; omega)⟩, ho.out.1, hf.out⟩, hb⟩
end Go.Proofs.YthncinngkfflgaaGreat


/- nat.less, nat.back. -/
set_option linter.unusedVariables false
set_option linter.unusedSimpArgs false
set_option maxRecDepth 100000
namespace Go.Proofs.YthncinngkfflgaaGreat
open Go.RowKit

/-- a stretch of a list -/
def stretch (l : List Nat) (j k : Nat) : List Nat := (l.drop j).take k
theorem stretch_zero (l : List Nat) (j : Nat) : stretch l j 0 = [] := by simp [stretch]
theorem stretch_succ (l : List Nat) (j k : Nat) : val (stretch l j (k+1)) = val (stretch l j k) + 4294967296 ^ k * l.getD (j+k) 0 := by
  unfold stretch
  rw [val_take_succ]
  congr 2
  rw [List.getD_eq_getElem?_getD, List.getD_eq_getElem?_getD, List.getElem?_drop]
theorem stretch_set (l : List Nat) (j k x : Nat) (h : j + k < l.length) : val (stretch (l.set (j+k) x) j (k+1)) = val (stretch l j k) + 4294967296 ^ k * x := by
  rw [stretch_succ, List.getD_eq_getElem?_getD, List.getElem?_set, if_pos rfl, if_pos h]
  congr 2
  unfold stretch
  rw [List.drop_set, if_neg (by omega), List.take_set_of_le (by omega)]
theorem stretch_lt {l : List Nat} (h : AllLt l) (j k : Nat) : val (stretch l j k) < 4294967296 ^ k := by
  unfold stretch
  refine Nat.lt_of_lt_of_le (val_lt ((h.drop j).take k)) (Nat.pow_le_pow_right (by omega) (by simp; omega))

/-- the same but for a stretch -/
structure Same (l o : List Nat) (j k : Nat) : Prop where
  len : o.length = l.length
  lt : AllLt o
  low : o.take j = l.take j
  high : o.drop (j + k) = l.drop (j + k)
theorem Same.refl {l : List Nat} (h : AllLt l) (j : Nat) : Same l l j 0 := ⟨rfl, h, rfl, rfl⟩
theorem Same.step {l o : List Nat} {j k x : Nat} (h : Same l o j k) (hk : j + k < o.length) (hx : x < 4294967296) : Same l (o.set (j+k) x) j (k+1) :=
  ⟨by simp [h.len], h.lt.set _ _ hx, by rw [List.take_set_of_le (by omega)]; exact h.low, by rw [← Nat.add_assoc, List.drop_set_of_lt (by omega)]; exact drop_succ h.high⟩
theorem Same.at_ {l o : List Nat} {j k y : Nat} (h : Same l o j k) (hy : o[j+k]? = some y) : l.getD (j+k) 0 = y := by
  rw [← drop_getD h.high, List.getD_eq_getElem?_getD, hy]; rfl

structure LessRow (l o v : List Nat) (j i d c bo : Nat) : Prop where
  same : Same l o j i
  sum : val (stretch o j i) + d * val (v.take i) = val (stretch l j i) + 4294967296 ^ i * (c + bo)
theorem LessRow.start {l v : List Nat} {j d : Nat} (h : AllLt l) : LessRow l l v j 0 d 0 0 := ⟨Same.refl h j, by simp [stretch_zero]⟩
theorem less_arith (P t D S L y bo bo' c c' dx lo df : Nat) (h : S + D = L + P * (c + bo)) (h1 : c + dx = lo + 4294967296 * c') (h2 : df + lo + bo = y + 4294967296 * bo') :
    (S + P * df) + (D + P * dx) = (L + P * y) + (P * 4294967296) * (c' + bo') := by
  have e1 : P * (df + dx + (c + bo)) = P * (y + 4294967296 * (c' + bo')) := by congr 1; omega
  rw [Nat.mul_add, Nat.mul_add P df dx, Nat.mul_add P y] at e1
  rw [Nat.mul_assoc]
  omega
theorem LessRow.step {l o v : List Nat} {j i d c bo x y c1 df bo' : Nat} (h : LessRow l o v j i d c bo) (hi : j + i < o.length) (hx : v[i]? = some x) (hy : o[j+i]? = some y) (hbo : bo ≤ 1)
    (hc1 : c1 = c + d * x) (hdf : (y + 4294967296 - c1 % 4294967296 - bo) % 4294967296 = df) (hbo' : (if y < c1 % 4294967296 + bo then 1 else 0) = bo') :
    LessRow l (o.set (j+i) df) v j (i+1) d (c1 / 4294967296) bo' := by
  have hyl := h.same.lt.at_ hy
  refine ⟨h.same.step hi (by omega), ?_⟩
  have e2 : val (v.take (i+1)) = val (v.take i) + 4294967296 ^ i * x := by rw [val_take_succ, List.getD_eq_getElem?_getD, hx]; rfl
  have e3 : d * (4294967296 ^ i * x) = 4294967296 ^ i * (d * x) := by rw [← Nat.mul_assoc, Nat.mul_comm d, Nat.mul_assoc]
  rw [stretch_set _ _ _ _ hi, stretch_succ, h.same.at_ hy, e2, Nat.mul_add, Nat.pow_succ, e3]
  refine less_arith _ 0 _ _ _ y bo bo' c _ (d * x) (c1 % 4294967296) df h.sum (by omega) ?_
  have : bo' = if y < c1 % 4294967296 + bo then 1 else 0 := hbo'.symm
  split at this <;> omega

theorem less_carry {d x c : Nat} (hd : d ≤ 4294967296) (hx : x < 4294967296) (hc : c < 4294967296) : d * x ≤ 18446744069414584320 ∧ (c + d * x) / 4294967296 < 4294967296 := by
  have h1 : d * x ≤ 4294967296 * 4294967295 := Nat.mul_le_mul hd (by omega)
  exact ⟨by omega, by omega⟩

theorem row_set_sp {w : World} {g k x : Nat} {T : TypeId} {o : List Nat} {sp : List Value} {q : IntKind} (h : Row w g T (nums q o ++ sp)) (hk : k < o.length) : Row (w.setCell ⟨g, k, none⟩ (.int q (x : Int))) g T (nums q (o.set k x) ++ sp) := by
  have h1 := h.set_ k (.int q (x : Int))
  rw [List.set_append_left _ _ (by rw [length_nums]; exact hk)] at h1
  rw [nums_set]; exact h1
theorem row_cell_sp {w : World} {g k : Nat} {T : TypeId} {o : List Nat} {sp : List Value} {q : IntKind} (h : Row w g T (nums q o ++ sp)) (hk : k < o.length) : ∃ x : Nat, Hid (o[k]? = some x) ∧ w.cell? ⟨g, k, none⟩ = some (.int q (x : Int)) ∧ w.frozen? ⟨g, k, none⟩ = false := by
  obtain ⟨x, hx, hu⟩ := nums_at (q := q) hk
  exact ⟨x, hx, h.cell (by rw [List.getElem?_append_left (by rw [length_nums]; exact hk)]; exact hu), h.frozen k⟩

set_option maxHeartbeats 1000000 in
theorem less_calls (w : World) (g gv nu cu n cv j d : Nat) (l v : List Nat) (sp spv : List Value) (hr : Row w g 133 (nums .u32 l ++ sp)) (hv : Row w gv 133 (nums .u32 v ++ spv)) (hne : gv ≠ g)
    (hl : AllLt l) (hvl : AllLt v) (hn : n = v.length) (hnu : nu = l.length) (hj : j + n < nu) (hd : d ≤ 4294967296) (hbig : nu ≤ 1000000001) :
    Calls Tryz.prog 190 #[.slice (some ⟨g, 0, none⟩) nu cu, .slice (some ⟨gv, 0, none⟩) n cv, .int .i64 j, .int .u64 d] w fun e w' =>
      ∃ (o : List Nat) (bo : Nat), e = .returned (.bool ((bo : Int) != 0)) ∧ bo ≤ 1 ∧ Same l o j (n+1) ∧ val (stretch o j (n+1)) + d * val v = val (stretch l j (n+1)) + 4294967296 ^ (n+1) * bo ∧ Row w' g 133 (nums .u32 o ++ sp) ∧ w.grownBy w' (some g) := by
  have HN := hide hn; have HNU := hide hnu; clear hn hnu
  go_enter Tryz.func190, Tryz.ntmps190
  go_wp2_with fail
  go_loopw [15, 9, 10] (fun i b c wr => ∃ k bo cc o, k ≤ n ∧ bo ≤ 1 ∧ cc < 4294967296 ∧ i = .int .i64 ((k : Nat) : Int) ∧ b = .int .u32 ((bo : Nat) : Int) ∧ c = .int .u64 ((cc : Nat) : Int) ∧ Hid (LessRow l o v j k d cc bo) ∧ Row wr g 133 (nums .u32 o ++ sp) ∧ w.grownBy wr (some g)) (fun i _ _ _ => (n - intOf i).toNat)
  case atStart => exact ⟨0, 0, 0, _, by omega, by omega, by omega, rfl, rfl, rfl, hide (LessRow.start hl), hr, World.grownBy.refl _ _⟩
  case round =>
    obtain ⟨k, bo, cc, o, hk, hbo, hcc, rfl, rfl, rfl, ho, hr', hg⟩ := hrel
    have hol : Hid (o.length = nu) := hide (by rw [ho.out.same.len, HNU.out])
    have hv' := hv.grown hg (by simpa using hne)
    by_cases hkn : k < n
    · obtain ⟨x, hx, hxc, -⟩ := row_cell_sp hv' (k := k) (by rw [← HN.out]; exact hkn)
      obtain ⟨y, hy, hyc, hyf⟩ := row_cell_sp hr' (k := j + k) (by rw [hol.out]; omega)
      have hxl : x < 4294967296 := hvl.at_ hx.out
      have hyl : y < 4294967296 := ho.out.same.lt.at_ hy.out
      obtain ⟨p, hp⟩ : ∃ p, d * x = p := ⟨_, rfl⟩
      have hlc := less_carry hd hxl hcc
      rw [hp] at hlc
      obtain ⟨hpb, hcb⟩ := hlc
      have hwp : IntKind.u64.wrap ((d : Int) * (x : Int)) = p := by
        have e : ((d : Int) * (x : Int)) = ((p : Nat) : Int) := by rw [← hp]; simp
        rw [e]; exact wrap_u64 (by omega)
      obtain ⟨c1, hc1⟩ : ∃ c1, c1 = cc + p := ⟨_, rfl⟩
      obtain ⟨lo, hlo⟩ : ∃ lo, lo = c1 % 4294967296 := ⟨_, rfl⟩
      obtain ⟨df, hdf⟩ : ∃ df, (y + 4294967296 - lo - bo) % 4294967296 = df := ⟨_, rfl⟩
      obtain ⟨bo', hbo'⟩ : ∃ bo', (if y < lo + bo then 1 else 0) = bo' := ⟨_, rfl⟩
      have hbl : bo' ≤ 1 := by rw [← hbo']; split <;> omega
      have hlol : lo < 4294967296 := by omega
      have HST := hide (ho.out.step (c1 := c1) (df := df) (bo' := bo') (by rw [hol.out]; omega) hx.out hy.out hbo (by rw [hp]; exact hc1) (by rw [← hlo]; exact hdf) (by rw [← hlo]; exact hbo'))
      have hci : ((cc : Int) + (p : Int)) % 4294967296 = (lo : Int) := by omega
      have hcd : Hid (((cc : Int) + (p : Int)) / 4294967296 = ((c1 / 4294967296 : Nat) : Int)) := hide (by omega)
      have hcb' : c1 / 4294967296 < 4294967296 := by rw [hc1]; exact hcb
      have HDF := hide hdf; have HBO := hide hbo'
      have HC1 := hide hc1
      clear hp hc1 hlo hdf hbo' hcb
      go_wp2_with (first
        | ((with_reducible refine (sub32_calls y lo bo df bo' hyl hlol hbo _ HDF.out HBO.out).mono ?_); rintro e w' ⟨rfl, rfl⟩))
      go_roundw
      case rel =>
        refine ⟨k+1, bo', _, _, by omega, hbl, hcb', by go_num, rfl, by rw [hcd.out], HST, row_set_sp hr' (by rw [hol.out]; omega), only_setCell hg (.inl rfl) _⟩
      case measure => simp [intOf]; omega
    · obtain rfl : k = n := by omega
      obtain ⟨y, hy, hyc, hyf⟩ := row_cell_sp hr' (k := j + k) (by rw [hol.out]; omega)
      have hyl : y < 4294967296 := ho.out.same.lt.at_ hy.out
      obtain ⟨df, hdf⟩ : ∃ df, (y + 4294967296 - cc - bo) % 4294967296 = df := ⟨_, rfl⟩
      obtain ⟨bo', hbo'⟩ : ∃ bo', (if y < cc + bo then 1 else 0) = bo' := ⟨_, rfl⟩
      have hbl : bo' ≤ 1 := by rw [← hbo']; split <;> omega
      have hfin : Same l (o.set (j+k) df) j (k+1) ∧ val (stretch (o.set (j+k) df) j (k+1)) + d * val v = val (stretch l j (k+1)) + 4294967296 ^ (k+1) * bo' := by
        refine ⟨ho.out.same.step (by rw [hol.out]; omega) (by omega), ?_⟩
        have h1 := ho.out.sum
        rw [List.take_of_length_le (by rw [← HN.out]; exact Nat.le_refl _)] at h1
        rw [stretch_set _ _ _ _ (by rw [hol.out]; omega), stretch_succ, ho.out.same.at_ hy.out, Nat.pow_succ]
        have h2 := less_arith _ 0 _ _ _ y bo bo' cc 0 0 cc df h1 (by omega) (by split at hbo' <;> omega)
        simpa using h2
      have HF := hide hfin; have HDF := hide hdf; have HBO := hide hbo'
      have hci : (cc : Int) % 4294967296 = (cc : Int) := by omega
      clear hfin hdf hbo'
      go_wp2_with (first
        | ((with_reducible refine (sub32_calls y cc bo df bo' hyl hcc hbo _ HDF.out HBO.out).mono ?_); rintro e w' ⟨rfl, rfl⟩))
      go_ret
      exact ⟨_, bo', rfl, hbl, HF.out.1, HF.out.2, row_set_sp hr' (by rw [hol.out]; omega), only_setCell hg (.inl rfl) _⟩
end Go.Proofs.YthncinngkfflgaaGreat


/- nat.back, nat.guess. -/
set_option linter.unusedVariables false
set_option linter.unusedSimpArgs false
set_option maxRecDepth 100000
namespace Go.Proofs.YthncinngkfflgaaGreat
open Go.RowKit

structure BackRow (l o v : List Nat) (j i c : Nat) : Prop where
  same : Same l o j i
  sum : val (stretch o j i) + 4294967296 ^ i * c = val (stretch l j i) + val (v.take i)
theorem BackRow.start {l v : List Nat} {j : Nat} (h : AllLt l) : BackRow l l v j 0 0 := ⟨Same.refl h j, by simp [stretch_zero]⟩
theorem back_arith (P S L D c y x s : Nat) (h : S + P * c = L + D) (hs : s = y + x + c) : (S + P * (s % 4294967296)) + (P * 4294967296) * (s / 4294967296) = (L + P * y) + (D + P * x) := by
  have e1 := Nat.mod_add_div s 4294967296
  have e2 : P * (s % 4294967296) + (P * 4294967296) * (s / 4294967296) = P * s := by rw [Nat.mul_assoc, ← Nat.mul_add, e1]
  rw [hs, Nat.mul_add, Nat.mul_add] at e2
  rw [hs]
  omega
theorem BackRow.step {l o v : List Nat} {j i c x y : Nat} (h : BackRow l o v j i c) (hi : j + i < o.length) (hx : v[i]? = some x) (hy : o[j+i]? = some y) :
    BackRow l (o.set (j+i) ((y + x + c) % 4294967296)) v j (i+1) ((y + x + c) / 4294967296) := by
  refine ⟨h.same.step hi (Nat.mod_lt _ (by omega)), ?_⟩
  have e2 : val (v.take (i+1)) = val (v.take i) + 4294967296 ^ i * x := by rw [val_take_succ, List.getD_eq_getElem?_getD, hx]; rfl
  rw [stretch_set _ _ _ _ hi, stretch_succ, h.same.at_ hy, e2, Nat.pow_succ]
  exact back_arith _ _ _ _ c y x _ h.sum rfl

set_option maxHeartbeats 1000000 in
theorem back_calls (w : World) (g gv nu cu n cv j : Nat) (l v : List Nat) (sp spv : List Value) (hr : Row w g 133 (nums .u32 l ++ sp)) (hv : Row w gv 133 (nums .u32 v ++ spv)) (hne : gv ≠ g)
    (hl : AllLt l) (hvl : AllLt v) (hn : n = v.length) (hnu : nu = l.length) (hj : j + n < nu) (hbig : nu ≤ 1000000001) :
    Calls Tryz.prog 191 #[.slice (some ⟨g, 0, none⟩) nu cu, .slice (some ⟨gv, 0, none⟩) n cv, .int .i64 j] w fun e w' =>
      ∃ (o : List Nat) (c : Nat), e = .returned (.tuple #[]) ∧ Same l o j (n+1) ∧ val (stretch o j (n+1)) + 4294967296 ^ (n+1) * c = val (stretch l j (n+1)) + val v ∧ Row w' g 133 (nums .u32 o ++ sp) ∧ w.grownBy w' (some g) := by
  have HN := hide hn; have HNU := hide hnu; clear hn hnu
  go_enter Tryz.func191, Tryz.ntmps191
  go_wp2_with fail
  go_loopw [11, 6] (fun i c wr => ∃ k cc o, k ≤ n ∧ cc ≤ 1 ∧ i = .int .i64 ((k : Nat) : Int) ∧ c = .int .u32 ((cc : Nat) : Int) ∧ Hid (BackRow l o v j k cc) ∧ Row wr g 133 (nums .u32 o ++ sp) ∧ w.grownBy wr (some g)) (fun i _ _ => (n - intOf i).toNat)
  case atStart => exact ⟨0, 0, _, by omega, by omega, rfl, rfl, hide (BackRow.start hl), hr, World.grownBy.refl _ _⟩
  case round =>
    obtain ⟨k, cc, o, hk, hcc, rfl, rfl, ho, hr', hg⟩ := hrel
    have hol : Hid (o.length = nu) := hide (by rw [ho.out.same.len, HNU.out])
    have hv' := hv.grown hg (by simpa using hne)
    by_cases hkn : k < n
    · obtain ⟨x, hx, hxc, -⟩ := row_cell_sp hv' (k := k) (by rw [← HN.out]; exact hkn)
      obtain ⟨y, hy, hyc, hyf⟩ := row_cell_sp hr' (k := j + k) (by rw [hol.out]; omega)
      have hxl : x < 4294967296 := hvl.at_ hx.out
      have hyl : y < 4294967296 := ho.out.same.lt.at_ hy.out
      have HST := hide (ho.out.step (by rw [hol.out]; omega) hx.out hy.out)
      go_wp2_with (first
        | ((with_reducible refine (add32_calls y x cc hyl hxl hcc _).mono ?_); rintro e w' ⟨rfl, rfl⟩))
      go_roundw
      case rel =>
        refine ⟨k+1, (y + x + cc) / 4294967296, _, by omega, by omega, by go_num, rfl, HST, ?_, only_setCell hg (.inl rfl) _⟩
        exact row_set_sp hr' (by rw [hol.out]; omega)
      case measure => simp [intOf]; omega
    · obtain rfl : k = n := by omega
      obtain ⟨y, hy, hyc, hyf⟩ := row_cell_sp hr' (k := j + k) (by rw [hol.out]; omega)
      have hyl : y < 4294967296 := ho.out.same.lt.at_ hy.out
      have hfin : Same l (o.set (j+k) ((y + cc) % 4294967296)) j (k+1) ∧ val (stretch (o.set (j+k) ((y + cc) % 4294967296)) j (k+1)) + 4294967296 ^ (k+1) * ((y + cc) / 4294967296) = val (stretch l j (k+1)) + val v := by
        refine ⟨ho.out.same.step (by rw [hol.out]; omega) (Nat.mod_lt _ (by omega)), ?_⟩
        have h1 := ho.out.sum
        rw [List.take_of_length_le (by rw [← HN.out]; exact Nat.le_refl _)] at h1
        rw [stretch_set _ _ _ _ (by rw [hol.out]; omega), stretch_succ, ho.out.same.at_ hy.out, Nat.pow_succ]
        have h2 := back_arith _ _ _ _ cc y 0 (y + cc) h1 (by omega)
        simpa using h2
      have HF := hide hfin
      clear hfin
      have hw : IntKind.u32.wrap ((y : Int) + (cc : Int)) = (((y + cc) % 4294967296 : Nat) : Int) := by simp [IntKind.wrap, IntKind.bits, IntKind.signed]
      go_wp2_with fail
      go_end0
      exact ⟨_, _, rfl, HF.out.1, HF.out.2, row_set_sp hr' (by rw [hol.out]; omega), only_setCell hg (.inl rfl) _⟩

/-! ### the guess -/
/-- between two rounds of the guess -/
structure Guess (high low top next q r : Nat) : Prop where
  div : q * top + r = high
  low' : ∀ t, t < 4294967296 → t * (top * 4294967296 + next) ≤ high * 4294967296 + low → t ≤ q
/-- when it has ended -/
structure Guessed (high low top next q : Nat) : Prop where
  low' : ∀ t, t < 4294967296 → t * (top * 4294967296 + next) ≤ high * 4294967296 + low → t ≤ q
  most : q ≤ 4294967296
  upp : q * (top * 4294967296 + next) ≤ high * 4294967296 + low

theorem Guess.start {high low top next : Nat} (ht : 2147483648 ≤ top) (hl : low < 4294967296) : Guess high low top next (high / top) (high % top) := by
  refine ⟨by rw [Nat.mul_comm]; exact Nat.div_add_mod _ _, fun t ht' h => ?_⟩
  rw [Nat.le_div_iff_mul_le (by omega)]
  have h1 : t * (top * 4294967296) ≤ t * (top * 4294967296 + next) := Nat.mul_le_mul_left _ (by omega)
  rw [← Nat.mul_assoc] at h1
  omega
theorem Guess.step {high low top next q r : Nat} (h : Guess high low top next q r) (hn : next < 4294967296) (hl : low < 4294967296) (hq : 4294967296 ≤ q ∨ r * 4294967296 + low < q * next) : 0 < q ∧ Guess high low top next (q - 1) (r + top) := by
  have h0 : 0 < q := by
    rcases Nat.eq_zero_or_pos q with h1 | h1
    · subst h1; simp at hq
    · exact h1
  refine ⟨h0, ?_, fun t ht h1 => ?_⟩
  · have h2 := h.div
    have h3 : (q - 1) * top + top = q * top := by
      have : q = (q - 1) + 1 := by omega
      conv => rhs; rw [this, Nat.add_mul, Nat.one_mul]
    omega
  · have h2 := h.low' t ht h1
    rcases hq with hq | hq
    · omega
    · rcases Nat.lt_or_ge t q with h3 | h3
      · omega
      · exfalso
        have h4 : t = q := by omega
        subst h4
        have h5 := h.div
        rw [Nat.mul_add, ← Nat.mul_assoc] at h1
        rw [← h5] at h1
        omega
theorem Guess.stop {high low top next q r : Nat} (h : Guess high low top next q r) (hq : q ≤ 4294967296) (hc : q * next ≤ r * 4294967296 + low) : Guessed high low top next q := by
  refine ⟨h.low', hq, ?_⟩
  have h5 := h.div
  rw [Nat.mul_add, ← Nat.mul_assoc, ← h5]
  omega
theorem Guess.stop2 {high low top next q r : Nat} (h : Guess high low top next q r) (hq : q ≤ 4294967296) (hn : next < 4294967296) (hr : 4294967296 ≤ r) : Guessed high low top next q := by
  refine h.stop hq ?_
  have h1 : q * next ≤ 4294967296 * 4294967295 := Nat.mul_le_mul hq (by omega)
  have h2 : 4294967296 * 4294967296 ≤ r * 4294967296 := Nat.mul_le_mul_right _ hr
  omega

def GuessRel (high low top next : Nat) (q r : Value) : Prop := ∃ qq rr : Nat, q = .int .u64 (qq : Int) ∧ r = .int .u64 (rr : Int) ∧ qq ≤ 4294967297 ∧ rr < 4294967296 ∧ Hid (Guess high low top next qq rr)

set_option maxHeartbeats 1000000 in
theorem guess_calls (w : World) (u' v' : Value) (u v : List Nat) (n j hi1 hi0 low top next : Nat) (hu : U32s w u' u) (hv : U32s w v' v) (hn : n = v.length) (hn2 : 2 ≤ n) (hj : j + n < u.length) (hbig : u.length ≤ 1000000001)
    (e1 : u[j+n]? = some hi1) (e2 : u[j+n-1]? = some hi0) (e3 : u[j+n-2]? = some low) (e4 : v[n-1]? = some top) (e5 : v[n-2]? = some next) (ht : 2147483648 ≤ top) (hh : hi1 ≤ top) :
    Calls Tryz.prog 189 #[u', v', .int .i64 j] w fun e w' => ∃ q : Nat, e = .returned (.int .u64 q) ∧ Guessed (hi1 * 4294967296 + hi0) low top next q ∧ Later w w' := by
  obtain ⟨A, cap, rfl, hcap, hcm, hlt, hc⟩ := hu.form
  obtain ⟨A', cap', rfl, hcap', hcm', hlt', hc'⟩ := hv.form
  have l1 := hlt.at_ e1
  have l2 := hlt.at_ e2
  have l3 := hlt.at_ e3
  have l4 := hlt'.at_ e4
  have l5 := hlt'.at_ e5
  obtain ⟨b1, o1, rfl, hcu⟩ := hc.at_ (k := 0) (by rw [length_nums]; omega)
  obtain ⟨b2, o2, rfl, hcv⟩ := hc'.at_ (k := 0) (by rw [length_nums]; omega)
  have c1 := hcu _ _ (nums_get e1)
  have c2 := hcu _ _ (nums_get e2)
  have c3 := hcu _ _ (nums_get e3)
  have c4 := hcv _ _ (nums_get e4)
  have c5 := hcv _ _ (nums_get e5)
  obtain ⟨nu, hnu⟩ : ∃ nu, nu = u.length := ⟨_, rfl⟩
  rw [← hnu] at hj hbig hcap; rw [← hnu, ← hn]
  have a1 : (0 : Int) ≤ (j : Int) + n - 1 := by omega
  have a2 : (0 : Int) ≤ (j : Int) + n - 2 := by omega
  obtain ⟨high, hhigh⟩ : ∃ high, high = hi1 * 4294967296 + hi0 := ⟨_, rfl⟩
  have hor : bits .or .u64 ((hi1 : Int) * 4294967296) (hi0 : Int) = (high : Int) := by rw [or_u64 l1 l2, hhigh]
  rw [← hhigh]
  have hhb : high < 18446744073709551616 := by omega
  have hdiv : high / top ≤ 4294967297 := by
    have h1 : high < 4294967298 * top := by omega
    have := Nat.div_lt_of_lt_mul (by rw [Nat.mul_comm]; exact h1 : high < top * 4294967298)
    omega
  have hmod : high % top < 4294967296 := Nat.lt_trans (Nat.mod_lt _ (by omega)) l4
  have HG := hide (Guess.start (high := high) (next := next) ht l3)
  obtain ⟨q0, hq0⟩ : ∃ q0, q0 = high / top := ⟨_, rfl⟩
  obtain ⟨r0, hr0⟩ : ∃ r0, r0 = high % top := ⟨_, rfl⟩
  rw [← hq0, ← hr0] at HG; rw [← hq0] at hdiv; rw [← hr0] at hmod
  have hqi : (high : Int) / top = (q0 : Int) := by rw [hq0]; exact (Int.natCast_ediv high top).symm
  have hri : (high : Int) % top = (r0 : Int) := by rw [hr0]; exact (Int.natCast_emod high top).symm
  clear hu hv hc hc' hcu hcv e1 e2 e3 e4 e5 hlt hlt' hn hnu hhigh hq0 hr0
  go_enter Tryz.func189, Tryz.ntmps189
  go_wp2_with fail
  go_quiet (fail)
  go_wp2_with fail
  go_quiet (fail)
  go_wp2_with fail
  go_quiet (fail)
  go_wp2_with fail
  have HRI := hide hri
  clear hqi hri hor
  go_loop [12, 13] (fun q r => GuessRel high low top next q r) (fun q _ => (intOf q).toNat)
  case atStart => exact ⟨q0, r0, rfl, by first | rfl | rw [HRI.out], hdiv, hmod, HG⟩
  case round =>
    obtain ⟨q, r, rfl, rfl, hq, hr, hG⟩ := hrel
    clear c1 c2 c3 c4 c5
    obtain ⟨m, hm⟩ : ∃ m, m = r * 4294967296 + low := ⟨_, rfl⟩
    have hml : m < 18446744073709551616 := by omega
    have hor2 : bits .or .u64 ((r : Int) * 4294967296) (low : Int) = (m : Int) := by rw [or_u64 hr l3, hm]
    obtain ⟨p, hp⟩ : ∃ p, p = q * next := ⟨_, rfl⟩
    have HM := hide hm; have HP := hide hp; clear hm hp
    have hwp : q < 4294967296 → IntKind.u64.wrap ((q : Int) * (next : Int)) = (p : Int) := fun h => wrap_mul HP.out.symm (by rw [HP.out]; exact mul_bound h l5)
    have HWP := hide hwp; clear hwp
    by_cases hgo : 4294967296 ≤ q ∨ m < p
    · obtain ⟨hq0, hst⟩ := hG.out.step l5 l3 (by rw [← HM.out, ← HP.out]; exact hgo)
      have HST := hide hst; clear hst
      by_cases hqb : 4294967296 ≤ q
      · have t1 : (((q : Int) / 4294967296) != 0) = true := by rw [bne_iff_ne]; omega
        clear hgo
        by_cases hbr : 4294967296 ≤ r + top
        · have t2 : ((((r : Int) + top) / 4294967296) != 0) = true := by rw [bne_iff_ne]; omega
          have HF := hide (HST.out.stop2 (by omega) l5 hbr)
          go_wp2_with fail
          go_ret
          exact ⟨q-1, by show Ending.returned (.int .u64 ((q : Int) - 1)) = _; congr 2; omega, HF.out, by first | exact (Later.refl w).drewN _ | exact ((Later.refl w).drewN _).drewN _ | exact (((Later.refl w).drewN _).drewN _).drewN _⟩
        · have t2 : ((((r : Int) + top) / 4294967296) != 0) = false := by rw [bne_eq_false_iff_eq]; omega
          go_wp2_with fail
          go_round
          case rel => exact ⟨q-1, r + top, by go_num, by go_num, by omega, by omega, HST⟩
          case measure => simp [intOf]; omega
      · have t1 : (((q : Int) / 4294967296) != 0) = false := by rw [bne_eq_false_iff_eq]; omega
        have hwp := HWP.out (by omega)
        have t3 : decide (m < p) = true := by rw [decide_eq_true_iff]; omega
        clear hgo
        by_cases hbr : 4294967296 ≤ r + top
        · have t2 : ((((r : Int) + top) / 4294967296) != 0) = true := by rw [bne_iff_ne]; omega
          have HF := hide (HST.out.stop2 (by omega) l5 hbr)
          go_wp2_with fail
          go_ret
          exact ⟨q-1, by show Ending.returned (.int .u64 ((q : Int) - 1)) = _; congr 2; omega, HF.out, by first | exact (Later.refl w).drewN _ | exact ((Later.refl w).drewN _).drewN _ | exact (((Later.refl w).drewN _).drewN _).drewN _⟩
        · have t2 : ((((r : Int) + top) / 4294967296) != 0) = false := by rw [bne_eq_false_iff_eq]; omega
          go_wp2_with fail
          go_round
          case rel => exact ⟨q-1, r + top, by go_num, by go_num, by omega, by omega, HST⟩
          case measure => simp [intOf]; omega
    · have t1 : (((q : Int) / 4294967296) != 0) = false := by rw [bne_eq_false_iff_eq]; omega
      have hwp := HWP.out (by omega)
      have t3 : decide (m < p) = false := by rw [decide_eq_false_iff_not]; omega
      have HF := hide (hG.out.stop (by omega) (by rw [← HM.out, ← HP.out]; omega))
      clear hgo
      go_wp2_with fail
      go_ret
      exact ⟨q, rfl, HF.out, by first | exact (Later.refl w).drewN _ | exact ((Later.refl w).drewN _).drewN _ | exact (((Later.refl w).drewN _).drewN _).drewN _⟩
end Go.Proofs.YthncinngkfflgaaGreat
