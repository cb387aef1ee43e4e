/- nat.Mul. -/
import Derived.Test.YtncbebfhakcgdaaGreatC1
import Derived.Shelf.Small.Bits
import Derived.Test.YtncbebfhakcgdaaGreatProg
set_option linter.unusedVariables false
set_option linter.unusedSimpArgs false
set_option maxRecDepth 100000
namespace Go.Proofs.YtncbebfhakcgdaaGreat
open Go.RowKit
theorem mul_bound {x y : Nat} (hx : x < 4294967296) (hy : y < 4294967296) : x * y <= 18446744065119617025 := by
 have h1 : x * y <= 4294967295 * 4294967295 := Nat.mul_le_mul (by omega) (by omega)
 omega
theorem wrap_u64 {y : Nat} (h : y < 18446744073709551616) : IntKind.u64.wrap (y : Int) = y := by simp [IntKind.wrap, IntKind.bits, IntKind.signed]; omega
theorem wrap_mul {x y p : Nat} (hp : x * y = p) (h : p <= 18446744065119617025) : IntKind.u64.wrap ((x : Int) * (y : Int)) = p := by
 have : ((x : Int) * (y : Int)) = ((p : Nat) : Int) := by rw [<- hp]; simp
 rw [this]; exact wrap_u64 (by omega)
structure MulRow (o0 o b : List Nat) (i k x c : Nat) : Prop where
 len : o.length = o0.length
 lt : AllLt o
 sum : val (o.take (i + k)) + 4294967296 ^ (i + k) * c = val (o0.take (i + k)) + 4294967296 ^ i * (x * val (b.take k))
 rest : o.drop (i + k) = o0.drop (i + k)
theorem drop_getD {o o0 : List Nat} {n : Nat} (h : o.drop n = o0.drop n) : o.getD n 0 = o0.getD n 0 := by
 have h1 : (o.drop n)[0]? = (o0.drop n)[0]? := by rw [h]
 rw [List.getElem?_drop, List.getElem?_drop, Nat.add_zero] at h1
 rw [List.getD_eq_getElem?_getD, List.getD_eq_getElem?_getD, h1]
theorem drop_succ {o o0 : List Nat} {n : Nat} (h : o.drop n = o0.drop n) : o.drop (n+1) = o0.drop (n+1) := by
 rw [Nat.add_comm, <- List.drop_drop, <- List.drop_drop]
 have : ∀ l : List Nat, List.drop n (List.drop 1 l) = List.drop 1 (List.drop n l) := by intro l; rw [List.drop_drop, List.drop_drop, Nat.add_comm]
 rw [this, this, h]
theorem MulRow.start {o0 b : List Nat} {i x : Nat} (h : AllLt o0) : MulRow o0 o0 b i 0 x 0 := ⟨rfl, h, by simp, rfl⟩
theorem MulRow.step {o0 o b : List Nat} {i k x c y z s : Nat} (h : MulRow o0 o b i k x c) (hk : i + k < o.length) (hy : b.getD k 0 = y) (hz : o[i+k]? = some z) (hs : s = c + (x * y + z)) :
 MulRow o0 (o.set (i + k) (s % 4294967296)) b i (k+1) x (s / 4294967296) := by
 have hz0 : o0.getD (i+k) 0 = z := by rw [<- drop_getD h.rest, List.getD_eq_getElem?_getD, hz]; rfl
 refine ⟨by simp [h.len], h.lt.set _ _ (Nat.mod_lt _ (by omega)), ?_, ?_⟩
 ·rw [<- Nat.add_assoc, val_set_take _ _ _ hk, val_take_succ, val_take_succ, hy, hz0]
  have e1 := Nat.mod_add_div s 4294967296
  have e2 : 4294967296 ^ (i+k) * (s % 4294967296) + 4294967296 ^ (i+k+1) * (s / 4294967296) = 4294967296 ^ (i+k) * s := by
   rw [Nat.pow_succ, Nat.mul_assoc, <- Nat.mul_add, e1]
  have e3 : 4294967296 ^ (i+k) * s = 4294967296 ^ (i+k) * c + 4294967296 ^ i * (x * (4294967296 ^ k * y)) + 4294967296 ^ (i+k) * z := by
   rw [hs, Nat.mul_add, Nat.mul_add, Nat.pow_add, Nat.add_assoc]
   congr 2
   rw [Nat.mul_assoc]; congr 1
   rw [<- Nat.mul_assoc, <- Nat.mul_assoc, Nat.mul_comm (4294967296 ^ k) x]
  have h3 := h.sum
  rw [Nat.mul_add x, Nat.mul_add]
  omega
 ·rw [<- Nat.add_assoc]
  rw [List.drop_set_of_lt (by omega)]
  exact drop_succ h.rest
structure MulAll (a b o : List Nat) (i : Nat) : Prop where
 len : o.length = a.length + b.length
 lt : AllLt o
 sum : val (o.take (i + b.length)) = val (a.take i) * val b
 rest : val (o.drop (i + b.length)) = 0
theorem MulAll.start (a b : List Nat) : MulAll a b (List.replicate (a.length + b.length) 0) 0 :=
 ⟨by simp, AllLt.replicate _, by rw [List.take_replicate, val_replicate]; simp, by rw [List.drop_replicate, val_replicate]⟩
theorem MulAll.step {a b o0 o : List Nat} {i x c : Nat} (h : MulAll a b o0 i) (hi : i < a.length) (hx : a[i]? = some x) (hr : MulRow o0 o b i b.length x c) (hc : c < 4294967296) : MulAll a b (o.set (i + b.length) c) (i+1) := by
 have hlen := h.len; have hl2 := hr.len
 refine ⟨by simp [hl2, hlen], hr.lt.set _ _ hc, ?_, ?_⟩
 ·rw [Nat.add_right_comm i 1, val_set_take _ _ _ (by omega), hr.sum, h.sum, val_take_succ, List.take_of_length_le (Nat.le_refl _), List.getD_eq_getElem?_getD, hx, Nat.add_mul, Nat.mul_assoc]; rfl
 ·rw [Nat.add_right_comm i 1, List.drop_set_of_lt (by omega), drop_succ hr.rest]
  have h1 := h.rest
  rw [List.drop_eq_getElem_cons (by omega), val_cons] at h1
  omega
theorem MulAll.done {a b o : List Nat} (h : MulAll a b o a.length) : val o = val a * val b := by
 have h1 := h.sum
 rwa [List.take_of_length_le (by rw [h.len]; exact Nat.le_refl _), List.take_of_length_le (Nat.le_refl _)] at h1
set_option maxHeartbeats 1000000 in
theorem mul_calls (w : World) (v u : Value) (a b : List Nat) (h : U32s w v a) (h' : U32s w u b) (ha : a.length <= 1000000000) (hb : b.length <= 1000000000) :
 Calls Tryz.prog 149 #[v, u] w (Ret w fun w' v' => Own32 160 w' w.heap.size v' (limbs (val a * val b))) := by
 obtain ⟨A, cap, rfl, hcap, hcm, hlt, hc⟩ := h.form
 obtain ⟨A', cap', rfl, hcap', hcm', hlt', hc'⟩ := h'.form
 obtain ⟨na, hna⟩ : ∃ na, na = a.length := ⟨_, rfl⟩
 obtain ⟨nb, hnb⟩ : ∃ nb, nb = b.length := ⟨_, rfl⟩
 rw [<- hna] at ha; rw [<- hnb] at hb
 rw [<- hna, <- hnb]
 have HS := hide (MulAll.start a b)
 rw [<- hna, <- hnb] at HS
 have HNA := hide hna; have HNB := hide hnb; clear hna hnb h h' hcap hcap'
 go_enter Tryz.func149, Tryz.ntmps149
 go_wp2_with (at_make; refine wpList_make_u32 rfl (.tmp 15) rfl _ (na + nb) rfl (Int.natCast_add _ _).symm (by omega) ?_; intro g w1 hg1 hr1 hb1)
 go_loopw [19] (fun i wr => ∃ k o, k <= na /\ i = .int .i64 ((k : Nat) : Int) /\ Hid (MulAll a b o k) /\ Row wr g 160 (nums .u32 o) /\ Later w wr) (fun i _ => (na - intOf i).toNat)
 case atStart => exact ⟨0, _, by omega, rfl, HS, hr1, hb1⟩
 case round =>
  obtain ⟨i, o0, hi, rfl, hm, hr, hb0⟩ := hrel
  by_cases hin : i < na
  ·obtain ⟨b1, o1, x, rfl, hx, hxl, hcx⟩ := limb_at (hc.later hb0) hlt (k := i) (by rw [<- HNA.out]; exact hin)
   obtain ⟨wo, hwo⟩ : ∃ wo : World, wo = wr := ⟨_, rfl⟩
   subst hwo
   go_wp2_with fail
   go_loopw [26, 8] (fun j c wr => ∃ k cc o, k <= nb /\ cc < 4294967296 /\ j = .int .i64 ((k : Nat) : Int) /\ c = .int .u64 ((cc : Nat) : Int) /\ Hid (MulRow o0 o b i k x cc) /\ Row wr g 160 (nums .u32 o) /\ Later w wr) (fun j _ _ => (nb - intOf j).toNat)
   case atStart => exact ⟨0, 0, o0, by omega, by omega, rfl, rfl, hide (MulRow.start hm.out.lt), hr, hb0⟩
   case round =>
    clear hr hcx
    obtain ⟨k, cc, o, hk, hcc, rfl, rfl, hmr, hr, hb2⟩ := hrel
    have hol : Hid (o.length = na + nb) := hide (by rw [hmr.out.len, hm.out.len, HNA.out, HNB.out])
    by_cases hkn : k < nb
    ·obtain ⟨b2, o2, y, rfl, hy, hyl, hcy⟩ := limb_at (hc'.later hb2) hlt' (k := k) (by rw [<- HNB.out]; exact hkn)
     obtain ⟨z, hz, hzc, hzf⟩ := row_cell hr (k := i + k) (by rw [hol.out]; omega)
     have hzl : z < 4294967296 := hmr.out.lt.at_ hz.out
     obtain ⟨p, hp⟩ : ∃ p, x * y = p := ⟨_, rfl⟩
     have hpb : p <= 18446744065119617025 := hp ▸ mul_bound hxl hyl
     have hwp := wrap_mul hp hpb
     have HP := hide hp; clear hp
     go_wp2_with fail
     go_roundw
     case rel =>
      have hst := hmr.out.step (y := y) (s := cc + (p + z)) (by rw [hol.out]; omega) (by rw [List.getD_eq_getElem?_getD, hy.out]; rfl) hz.out (by rw [HP.out])
      refine ⟨k+1, (cc + (p + z)) / 4294967296, _, by omega, by omega, by go_num, by go_num, hide hst, ?_, hb2.setCell (p := ⟨g, i + k, none⟩) hg1 _⟩
      have e : (((cc : Int) + (p + z)) % 4294967296) = (((cc + (p + z)) % 4294967296 : Nat) : Int) := by omega
      rw [e]; exact row_set hr
     case measure => simp [intOf]; omega
    ·obtain rfl : k = nb := by omega
     obtain ⟨z, hz, hzc, hzf⟩ := row_cell hr (k := i + k) (by rw [hol.out]; omega)
     have HST := hide (hm.out.step (c := cc) (by rw [<- HNA.out]; exact hin) hx.out (by rw [<- HNB.out]; exact hmr.out) hcc)
     rw [<- HNB.out] at HST
     have e : (cc : Int) % 4294967296 = cc := by omega
     go_wp2_with fail
     go_roundw
     case rel =>
      refine ⟨i+1, _, by omega, by go_num, HST, ?_, hb2.setCell (p := ⟨g, i + k, none⟩) hg1 _⟩
      exact row_set hr
     case measure => simp [intOf]; omega
  ·obtain rfl : i = na := by omega
   have HD := hide (MulAll.done (by rw [<- HNA.out]; exact hm.out))
   have hol : Hid (o0.length = i + nb) := hide (by rw [hm.out.len, HNA.out, HNB.out])
   have HO := hide (show Own32 160 wr w.heap.size (.slice (some ⟨g, 0, none⟩) (i + nb) (i + nb)) o0 from ⟨hm.out.lt, OwnNums.of_row hr hg1 hol.out (by unfold maxLen; omega)⟩)
   have HL := hide (show o0.length <= 2000000000 by rw [hol.out]; omega)
   have HT := hide hb0
   clear hr hm
   go_wp2_with ((with_reducible refine (trim_calls _ _ _ HO.out.reads HL.out).mono ?_); rintro e w' ⟨v', rfl, ov, bv⟩)
   go_ret
   exact ⟨_, rfl, by rw [<- HD.out]; exact ov.weaken HT.out.size, HT.out.trans bv⟩
end Go.Proofs.YtncbebfhakcgdaaGreat
namespace Go.Proofs.YtncbebfhakcgdaaGreat
open Go.Shelf
def lays133_ren : Go.Shelf.Ren := ⟨fun | 133 => 186 | 128 => 135 | n => n, fun | 51 => 160 | 3 => 3 | 4 => 4 | 46 => 139 | 5 => 5 | 9 => 9 | n => n, fun | n => n⟩
theorem lays133 : Go.Proofs.Lays.n133 Tryz.prog lays133_ren := {
 mixed := by kernel_rfl
 f128 := Tryz.func135.trans (congrArg some (by kernel_rfl))
 f133 := Tryz.func186.trans (congrArg some (by kernel_rfl))
 t3 := Tryz.underlying3
 a3 := Tryz.isAgg3
 z3 := Tryz.sizeOf3
 v3 := Tryz.zeroValue3
 t4 := Tryz.underlying4
 a4 := Tryz.isAgg4
 z4 := Tryz.sizeOf4
 v4 := Tryz.zeroValue4
 t5 := Tryz.underlying5
 a5 := Tryz.isAgg5
 z5 := Tryz.sizeOf5
 v5 := Tryz.zeroValue5
 t9 := Tryz.underlying9
 a9 := Tryz.isAgg9
 z9 := Tryz.sizeOf9
 v9 := Tryz.zeroValue9
 t46 := Tryz.underlying139
 a46 := Tryz.isAgg139
 z46 := Tryz.sizeOf139
 v46 := Tryz.zeroValue139
 t51 := Tryz.underlying160
 a51 := Tryz.isAgg160
 z51 := Tryz.sizeOf160
 v51 := Tryz.zeroValue160 }
theorem bits_LeadingZeros32 (x : Int) (w : World) (h0 : 0 <= x) (h1 : x <= 4294967295) :
 Calls Tryz.prog 186 #[.int .u32 x] w fun e w' => e = .returned (.int .i64 (32 - (Lib.bitLen x.toNat : Int))) /\ w' = w := Any.bits_LeadingZeros32 lays133 x w h0 h1
end Go.Proofs.YtncbebfhakcgdaaGreat
namespace Go.Proofs.YtncbebfhakcgdaaGreat
open Go.RowKit
theorem or_u64 {h l : Nat} (hh : h < 4294967296) (hl : l < 4294967296) : bits .or .u64 ((h : Int) * 4294967296) (l : Int) = ((h * 4294967296 + l : Nat) : Int) := by
 have wr : ∀ n : Int, 0 <= n -> n < 2 ^ 64 -> IntKind.u64.wrap n = n := by
  intro n h0 h1; simp [IntKind.wrap, IntKind.bits, IntKind.signed]; omega
 have e := bits_join .u64 64 (Nat.le_refl _) wr 32 ((h : Int) * 4294967296) (l : Int) (by omega) (by omega) (by omega) (by omega) (by omega) (by omega)
 rw [e]; simp
set_option maxHeartbeats 400000 in
theorem div32_calls (hi lo y : Nat) (hh : hi < y) (hl : lo < 4294967296) (hy : y < 4294967296) (w : World) :
 Calls Tryz.prog 185 #[.int .u32 hi, .int .u32 lo, .int .u32 y] w fun e w' => e = .returned (.tuple #[.int .u32 ((hi * 4294967296 + lo) / y : Nat), .int .u32 ((hi * 4294967296 + lo) % y : Nat)]) /\ ∃ nq, w' = w.drewN nq := by
 have h1 : decide ((y : Int) <= hi) = false := by simp; omega
 have h2 : ((y : Int) != 0) = true := by simp; omega
 have ho := or_u64 (h := hi) (l := lo) (by omega) hl
 go_enter Tryz.func185, Tryz.ntmps185
 go_wp2
 obtain ⟨z, hz⟩ : ∃ z, z = hi * 4294967296 + lo := ⟨_, rfl⟩
 have hzi : ((hi : Int) * 4294967296 + lo) = ((z : Nat) : Int) := by omega
 have hq : z / y < 4294967296 := by
  have : z < 4294967296 * y := by
   have h3 : (hi + 1) * 4294967296 <= y * 4294967296 := Nat.mul_le_mul_right _ (by omega)
   omega
  exact Nat.div_lt_of_lt_mul (by rw [Nat.mul_comm]; exact this)
 have hr : z % y < y := Nat.mod_lt _ (by omega)
 have e1 : (z : Int) / y = ((z / y : Nat) : Int) := (Int.natCast_ediv z y).symm
 have e2 : (z : Int) % y = ((z % y : Nat) : Int) := (Int.natCast_emod z y).symm
 have hq' : (z : Int) / y < 4294967296 := by rw [e1]; omega
 have hq0 : 0 <= (z : Int) / y := by rw [e1]; exact Int.natCast_nonneg _
 have hr' : (z : Int) % y < 4294967296 := by rw [e2]; omega
 have hr0 : 0 <= (z : Int) % y := by rw [e2]; exact Int.natCast_nonneg _
 have E1 := hide e1; have E2 := hide e2; clear e1 e2
 have hy0 : 0 < y := by omega
 have hzl : (z : Int) < 18446744073709551616 := by omega
 rw [hzi]
 have HZ := hide hz; clear hz hzi ho hq hr
 go_quiet (fail)
 go_wp2
 go_ret2
 refine ⟨?_, _, rfl⟩
 rw [<- HZ.out, <- E1.out, <- E2.out]; rfl
theorem pow32 {s : Nat} (hs : s < 32) : 4294967296 = 2 ^ s * 2 ^ (32 - s) := by
 have h : s + (32 - s) = 32 := by omega
 rw [<- Nat.pow_add, h]
theorem shl_mod {x s p : Nat} (hs : s < 32) (hp : x * 2 ^ s = p) : p % 4294967296 = 2 ^ s * (x % 2 ^ (32 - s)) := by
 rw [<- hp, pow32 hs, Nat.mul_comm x, Nat.mul_mod_mul_left]
theorem shl_facts {x s p z : Nat} (hs : s < 32) (hx : x < 4294967296) (hp : x * 2 ^ s = p) (hz : z < 2 ^ s) :
 p < 18446744073709551616 /\ p / 4294967296 < 2 ^ s /\ z + p % 4294967296 < 4294967296 /\ 2 ^ s <= 2147483648 := by
 have h31 : 2 ^ s <= 2 ^ 31 := Nat.pow_le_pow_right (by omega) (by omega)
 have h1 : p < 4294967296 * 2 ^ s := by rw [<- hp]; exact Nat.mul_lt_mul_of_pos_right hx (Nat.two_pow_pos s)
 have h2 : p / 4294967296 < 2 ^ s := Nat.div_lt_of_lt_mul h1
 have h3 := shl_mod hs hp
 have h4 : x % 2 ^ (32 - s) < 2 ^ (32 - s) := Nat.mod_lt _ (Nat.two_pow_pos _)
 have h5 : 2 ^ s * (x % 2 ^ (32 - s)) + 2 ^ s <= 2 ^ s * 2 ^ (32 - s) := by
  rw [<- Nat.mul_succ]; exact Nat.mul_le_mul_left _ h4
 rw [<- pow32 hs] at h5
 refine ⟨by omega, h2, by omega, h31⟩
theorem or_shl {x s p z : Nat} (hs : s < 32) (hx : x < 4294967296) (hp : x * 2 ^ s = p) (hz : z < 2 ^ s) : bits .or .u32 (z : Int) ((p : Int) % 4294967296) = ((z + p % 4294967296 : Nat) : Int) := by
 obtain ⟨_, _, h3, _⟩ := shl_facts hs hx hp hz
 have e : (p : Int) % 4294967296 = ((p % 4294967296 : Nat) : Int) := by omega
 rw [e, (bits32 z (p % 4294967296) (by omega) (by omega)).2.1, shl_mod hs hp, Nat.or_comm, <- Nat.two_pow_add_eq_or_of_lt hz]
 congr 1; omega
theorem shift_step {a o : List Nat} {k n s x z p : Nat} (ho : o.length = n + 1 /\ AllLt o /\ val (o.take (k+1)) = val (a.take k) * 2 ^ s /\ o.getD k 0 < 2 ^ s) (hk : k < n) (hx : a[k]? = some x) (hxl : x < 4294967296) (hz : o[k]? = some z) (hs : s < 32) (hp : x * 2 ^ s = p) :
 ((o.set k (z + p % 4294967296)).set (k+1) (p / 4294967296)).length = n + 1 /\ AllLt ((o.set k (z + p % 4294967296)).set (k+1) (p / 4294967296)) /\ val (((o.set k (z + p % 4294967296)).set (k+1) (p / 4294967296)).take (k+1+1)) = val (a.take (k+1)) * 2 ^ s /\ ((o.set k (z + p % 4294967296)).set (k+1) (p / 4294967296)).getD (k+1) 0 < 2 ^ s := by
 obtain ⟨h1, h2, h3, h4⟩ := ho
 have hzs : z < 2 ^ s := by rw [List.getD_eq_getElem?_getD, hz] at h4; simpa using h4
 obtain ⟨f1, f2, f3, f4⟩ := shl_facts hs hxl hp hzs
 refine ⟨by simp [h1], (h2.set _ _ f3).set _ _ (by omega), ?_, ?_⟩
 ·rw [val_set_take _ _ _ (by simp [h1]; omega), val_set_take _ _ _ (by omega)]
  have e1 := val_take_succ o k
  rw [List.getD_eq_getElem?_getD, hz, h3] at e1
  rw [val_take_succ a k, List.getD_eq_getElem?_getD, hx]
  simp only [Option.getD_some] at e1 ⊢
  have e2 : 4294967296 ^ k * (p % 4294967296) + 4294967296 ^ (k+1) * (p / 4294967296) = 4294967296 ^ k * x * 2 ^ s := by
   rw [Nat.pow_succ, Nat.mul_assoc, <- Nat.mul_add, Nat.mod_add_div, <- hp, Nat.mul_assoc]
  rw [Nat.add_mul, Nat.mul_add]
  omega
 ·rw [List.getD_eq_getElem?_getD, List.getElem?_set, if_pos rfl, if_pos (by simp [h1]; omega)]; simpa using f2
set_option maxHeartbeats 1000000 in
theorem shift_calls (w : World) (v : Value) (a : List Nat) (s : Nat) (h : U32s w v a) (ha : a.length <= 1000000000) (hs : s < 32) :
 Calls Tryz.prog 187 #[v, .int .i64 s] w (Ret w fun w' v' => ∃ o, Own32 160 w' w.heap.size v' o /\ o.length = a.length + 1 /\ val o = val a * 2 ^ s) := by
 obtain ⟨A, cap, rfl, hcap, hcm, hlt, hc⟩ := h.form
 obtain ⟨n, hn⟩ : ∃ na, na = a.length := ⟨_, rfl⟩
 rw [<- hn] at ha; rw [<- hn]
 have HN := hide hn; clear hn h hcap
 go_enter Tryz.func187, Tryz.ntmps187
 go_wp2_with (at_make; refine wpList_make_u32 rfl (.tmp 11) rfl _ (n+1) rfl (Int.natCast_succ _).symm (by omega) ?_; intro g w1 hg1 hr1 hb1)
 go_loopw [15] (fun i wr => ∃ k o, k <= n /\ i = .int .i64 ((k : Nat) : Int) /\ Hid (o.length = n + 1 /\ AllLt o /\ val (o.take (k+1)) = val (a.take k) * 2 ^ s /\ o.getD k 0 < 2 ^ s) /\ Row wr g 160 (nums .u32 o) /\ Later w wr) (fun i _ => (n - intOf i).toNat)
 case atStart => exact ⟨0, _, by omega, rfl, hide ⟨by simp, AllLt.replicate _, by simp [List.take_replicate, val_replicate], by simp [List.getD_eq_getElem?_getD]; exact Nat.two_pow_pos s⟩, hr1, hb1⟩
 case round =>
  obtain ⟨k, o, hk, rfl, ho, hr, hb⟩ := hrel
  by_cases hkn : k < n
  ·obtain ⟨b1, o1, x, rfl, hx, hxl, hcx⟩ := limb_at (hc.later hb) hlt (k := k) (by rw [<- HN.out]; exact hkn)
   obtain ⟨z, hz, hzc, hzf⟩ := row_cell hr (k := k) (by rw [ho.out.1]; omega)
   obtain ⟨z', -, hzc', hzf'⟩ := row_cell hr (k := k+1) (by rw [ho.out.1]; omega)
   obtain ⟨p, hp⟩ : ∃ p, x * 2 ^ s = p := ⟨_, rfl⟩
   have hzs : z < 2 ^ s := by have h4 := ho.out.2.2.2; rw [List.getD_eq_getElem?_getD, hz.out] at h4; simpa using h4
   have hfacts := shl_facts hs hxl hp hzs
   have hwp : IntKind.u64.wrap ((x : Int) * 2 ^ s) = ((p : Nat) : Int) := by
    have e : ((x : Int) * 2 ^ s) = ((p : Nat) : Int) := by rw [<- hp]; simp
    rw [e]; exact wrap_u64 hfacts.1
   have hor := or_shl hs hxl hp hzs
   have HST := hide (shift_step ho.out hkn hx.out hxl hz.out hs hp)
   have hpl : p < 18446744073709551616 := hfacts.1
   clear hp hzs hfacts
   go_wp2_with fail
   go_roundw
   case rel =>
    refine ⟨k+1, _, by omega, by go_num, HST, ?_, (hb.setCell (p := ⟨g, k, none⟩) hg1 _).setCell (p := ⟨g, k+1, none⟩) hg1 _⟩
    have e1 : ((z : Int) + (p : Int) % 4294967296) = ((z + p % 4294967296 : Nat) : Int) := by omega
    have e2 : (p : Int) / 4294967296 = ((p / 4294967296 : Nat) : Int) := by omega
    rw [e1, e2]; exact row_set (row_set hr)
   case measure => simp [intOf]; omega
  ·obtain rfl : k = n := by omega
   have hf : Hid (val o = val a * 2 ^ s) := hide (by
    have h := ho.out.2.2.1
    rwa [List.take_of_length_le (by rw [ho.out.1]; exact Nat.le_refl _), List.take_of_length_le (by rw [<- HN.out]; exact Nat.le_refl _)] at h)
   go_wp2_with fail
   go_ret
   exact ⟨_, rfl, ⟨o, ⟨ho.out.2.1, OwnNums.of_row hr hg1 ho.out.1 (by unfold maxLen; omega)⟩, ho.out.1, hf.out⟩, hb⟩
end Go.Proofs.YtncbebfhakcgdaaGreat
namespace Go.Proofs.YtncbebfhakcgdaaGreat
open Go.RowKit
def stretch (l : List Nat) (j k : Nat) : List Nat := (l.drop j).take k
theorem stretch_zero (l : List Nat) (j : Nat) : stretch l j 0 = [] := by simp [stretch]
theorem stretch_succ (l : List Nat) (j k : Nat) : val (stretch l j (k+1)) = val (stretch l j k) + 4294967296 ^ k * l.getD (j+k) 0 := by
 unfold stretch
 rw [val_take_succ]
 congr 2
 rw [List.getD_eq_getElem?_getD, List.getD_eq_getElem?_getD, List.getElem?_drop]
theorem stretch_set (l : List Nat) (j k x : Nat) (h : j + k < l.length) : val (stretch (l.set (j+k) x) j (k+1)) = val (stretch l j k) + 4294967296 ^ k * x := by
 rw [stretch_succ, List.getD_eq_getElem?_getD, List.getElem?_set, if_pos rfl, if_pos h]
 congr 2
 unfold stretch
 rw [List.drop_set, if_neg (by omega), List.take_set_of_le (by omega)]
theorem stretch_lt {l : List Nat} (h : AllLt l) (j k : Nat) : val (stretch l j k) < 4294967296 ^ k := by
 unfold stretch
 refine Nat.lt_of_lt_of_le (val_lt ((h.drop j).take k)) (Nat.pow_le_pow_right (by omega) (by simp; omega))
structure Same (l o : List Nat) (j k : Nat) : Prop where
 len : o.length = l.length
 lt : AllLt o
 low : o.take j = l.take j
 high : o.drop (j + k) = l.drop (j + k)
theorem Same.refl {l : List Nat} (h : AllLt l) (j : Nat) : Same l l j 0 := ⟨rfl, h, rfl, rfl⟩
theorem Same.step {l o : List Nat} {j k x : Nat} (h : Same l o j k) (hk : j + k < o.length) (hx : x < 4294967296) : Same l (o.set (j+k) x) j (k+1) :=
 ⟨by simp [h.len], h.lt.set _ _ hx, by rw [List.take_set_of_le (by omega)]; exact h.low, by rw [<- Nat.add_assoc, List.drop_set_of_lt (by omega)]; exact drop_succ h.high⟩
theorem Same.at_ {l o : List Nat} {j k y : Nat} (h : Same l o j k) (hy : o[j+k]? = some y) : l.getD (j+k) 0 = y := by
 rw [<- drop_getD h.high, List.getD_eq_getElem?_getD, hy]; rfl
structure LessRow (l o v : List Nat) (j i d c bo : Nat) : Prop where
 same : Same l o j i
 sum : val (stretch o j i) + d * val (v.take i) = val (stretch l j i) + 4294967296 ^ i * (c + bo)
theorem LessRow.start {l v : List Nat} {j d : Nat} (h : AllLt l) : LessRow l l v j 0 d 0 0 := ⟨Same.refl h j, by simp [stretch_zero]⟩
theorem less_arith (P t D S L y bo bo' c c' dx lo df : Nat) (h : S + D = L + P * (c + bo)) (h1 : c + dx = lo + 4294967296 * c') (h2 : df + lo + bo = y + 4294967296 * bo') :
 (S + P * df) + (D + P * dx) = (L + P * y) + (P * 4294967296) * (c' + bo') := by
 have e1 : P * (df + dx + (c + bo)) = P * (y + 4294967296 * (c' + bo')) := by congr 1; omega
 rw [Nat.mul_add, Nat.mul_add P df dx, Nat.mul_add P y] at e1
 rw [Nat.mul_assoc]
 omega
theorem LessRow.step {l o v : List Nat} {j i d c bo x y c1 df bo' : Nat} (h : LessRow l o v j i d c bo) (hi : j + i < o.length) (hx : v[i]? = some x) (hy : o[j+i]? = some y) (hbo : bo <= 1)
 (hc1 : c1 = c + d * x) (hdf : (y + 4294967296 - c1 % 4294967296 - bo) % 4294967296 = df) (hbo' : (if y < c1 % 4294967296 + bo then 1 else 0) = bo') :
 LessRow l (o.set (j+i) df) v j (i+1) d (c1 / 4294967296) bo' := by
 have hyl := h.same.lt.at_ hy
 refine ⟨h.same.step hi (by omega), ?_⟩
 have e2 : val (v.take (i+1)) = val (v.take i) + 4294967296 ^ i * x := by rw [val_take_succ, List.getD_eq_getElem?_getD, hx]; rfl
 have e3 : d * (4294967296 ^ i * x) = 4294967296 ^ i * (d * x) := by rw [<- Nat.mul_assoc, Nat.mul_comm d, Nat.mul_assoc]
 rw [stretch_set _ _ _ _ hi, stretch_succ, h.same.at_ hy, e2, Nat.mul_add, Nat.pow_succ, e3]
 refine less_arith _ 0 _ _ _ y bo bo' c _ (d * x) (c1 % 4294967296) df h.sum (by omega) ?_
 have : bo' = if y < c1 % 4294967296 + bo then 1 else 0 := hbo'.symm
 split at this <;> omega
theorem less_carry {d x c : Nat} (hd : d <= 4294967296) (hx : x < 4294967296) (hc : c < 4294967296) : d * x <= 18446744069414584320 /\ (c + d * x) / 4294967296 < 4294967296 := by
 have h1 : d * x <= 4294967296 * 4294967295 := Nat.mul_le_mul hd (by omega)
 exact ⟨by omega, by omega⟩
theorem row_set_sp {w : World} {g k x : Nat} {T : TypeId} {o : List Nat} {sp : List Value} {q : IntKind} (h : Row w g T (nums q o ++ sp)) (hk : k < o.length) : Row (w.setCell ⟨g, k, none⟩ (.int q (x : Int))) g T (nums q (o.set k x) ++ sp) := by
 have h1 := h.set_ k (.int q (x : Int))
 rw [List.set_append_left _ _ (by rw [length_nums]; exact hk)] at h1
 rw [nums_set]; exact h1
theorem row_cell_sp {w : World} {g k : Nat} {T : TypeId} {o : List Nat} {sp : List Value} {q : IntKind} (h : Row w g T (nums q o ++ sp)) (hk : k < o.length) : ∃ x : Nat, Hid (o[k]? = some x) /\ w.cell? ⟨g, k, none⟩ = some (.int q (x : Int)) /\ w.frozen? ⟨g, k, none⟩ = false := by
 obtain ⟨x, hx, hu⟩ := nums_at (q := q) hk
 exact ⟨x, hx, h.cell (by rw [List.getElem?_append_left (by rw [length_nums]; exact hk)]; exact hu), h.frozen k⟩
set_option maxHeartbeats 1000000 in
theorem less_calls (w : World) (g gv nu cu n cv j d : Nat) (l v : List Nat) (sp spv : List Value) (hr : Row w g 160 (nums .u32 l ++ sp)) (hv : Row w gv 160 (nums .u32 v ++ spv)) (hne : gv ≠ g)
 (hl : AllLt l) (hvl : AllLt v) (hn : n = v.length) (hnu : nu = l.length) (hj : j + n < nu) (hd : d <= 4294967296) (hbig : nu <= 1000000001) :
 Calls Tryz.prog 189 #[.slice (some ⟨g, 0, none⟩) nu cu, .slice (some ⟨gv, 0, none⟩) n cv, .int .i64 j, .int .u64 d] w fun e w' =>
  ∃ (o : List Nat) (bo : Nat), e = .returned (.bool ((bo : Int) != 0)) /\ bo <= 1 /\ Same l o j (n+1) /\ val (stretch o j (n+1)) + d * val v = val (stretch l j (n+1)) + 4294967296 ^ (n+1) * bo /\ Row w' g 160 (nums .u32 o ++ sp) /\ w.grownBy w' (some g) := by
 have HN := hide hn; have HNU := hide hnu; clear hn hnu
 go_enter Tryz.func189, Tryz.ntmps189
 go_wp2_with fail
 go_loopw [15, 9, 10] (fun i b c wr => ∃ k bo cc o, k <= n /\ bo <= 1 /\ cc < 4294967296 /\ i = .int .i64 ((k : Nat) : Int) /\ b = .int .u32 ((bo : Nat) : Int) /\ c = .int .u64 ((cc : Nat) : Int) /\ Hid (LessRow l o v j k d cc bo) /\ Row wr g 160 (nums .u32 o ++ sp) /\ w.grownBy wr (some g)) (fun i _ _ _ => (n - intOf i).toNat)
 case atStart => exact ⟨0, 0, 0, _, by omega, by omega, by omega, rfl, rfl, rfl, hide (LessRow.start hl), hr, World.grownBy.refl _ _⟩
 case round =>
  obtain ⟨k, bo, cc, o, hk, hbo, hcc, rfl, rfl, rfl, ho, hr', hg⟩ := hrel
  have hol : Hid (o.length = nu) := hide (by rw [ho.out.same.len, HNU.out])
  have hv' := hv.grown hg (by simpa using hne)
  by_cases hkn : k < n
  ·obtain ⟨x, hx, hxc, -⟩ := row_cell_sp hv' (k := k) (by rw [<- HN.out]; exact hkn)
   obtain ⟨y, hy, hyc, hyf⟩ := row_cell_sp hr' (k := j + k) (by rw [hol.out]; omega)
   have hxl : x < 4294967296 := hvl.at_ hx.out
   have hyl : y < 4294967296 := ho.out.same.lt.at_ hy.out
   obtain ⟨p, hp⟩ : ∃ p, d * x = p := ⟨_, rfl⟩
   have hlc := less_carry hd hxl hcc
   rw [hp] at hlc
   obtain ⟨hpb, hcb⟩ := hlc
   have hwp : IntKind.u64.wrap ((d : Int) * (x : Int)) = p := by
    have e : ((d : Int) * (x : Int)) = ((p : Nat) : Int) := by rw [<- hp]; simp
    rw [e]; exact wrap_u64 (by omega)
   obtain ⟨c1, hc1⟩ : ∃ c1, c1 = cc + p := ⟨_, rfl⟩
   obtain ⟨lo, hlo⟩ : ∃ lo, lo = c1 % 4294967296 := ⟨_, rfl⟩
   obtain ⟨df, hdf⟩ : ∃ df, (y + 4294967296 - lo - bo) % 4294967296 = df := ⟨_, rfl⟩
   obtain ⟨bo', hbo'⟩ : ∃ bo', (if y < lo + bo then 1 else 0) = bo' := ⟨_, rfl⟩
   have hbl : bo' <= 1 := by rw [<- hbo']; split <;> omega
   have hlol : lo < 4294967296 := by omega
   have HST := hide (ho.out.step (c1 := c1) (df := df) (bo' := bo') (by rw [hol.out]; omega) hx.out hy.out hbo (by rw [hp]; exact hc1) (by rw [<- hlo]; exact hdf) (by rw [<- hlo]; exact hbo'))
   have hci : ((cc : Int) + (p : Int)) % 4294967296 = (lo : Int) := by omega
   have hcd : Hid (((cc : Int) + (p : Int)) / 4294967296 = ((c1 / 4294967296 : Nat) : Int)) := hide (by omega)
   have hcb' : c1 / 4294967296 < 4294967296 := by rw [hc1]; exact hcb
   have HDF := hide hdf; have HBO := hide hbo'
   have HC1 := hide hc1
   clear hp hc1 hlo hdf hbo' hcb
   go_wp2_with (first
    | ((with_reducible refine (sub32_calls y lo bo df bo' hyl hlol hbo _ HDF.out HBO.out).mono ?_); rintro e w' ⟨rfl, rfl⟩))
   go_roundw
   case rel =>
    refine ⟨k+1, bo', _, _, by omega, hbl, hcb', by go_num, rfl, by rw [hcd.out], HST, row_set_sp hr' (by rw [hol.out]; omega), only_setCell hg (.inl rfl) _⟩
   case measure => simp [intOf]; omega
  ·obtain rfl : k = n := by omega
   obtain ⟨y, hy, hyc, hyf⟩ := row_cell_sp hr' (k := j + k) (by rw [hol.out]; omega)
   have hyl : y < 4294967296 := ho.out.same.lt.at_ hy.out
   obtain ⟨df, hdf⟩ : ∃ df, (y + 4294967296 - cc - bo) % 4294967296 = df := ⟨_, rfl⟩
   obtain ⟨bo', hbo'⟩ : ∃ bo', (if y < cc + bo then 1 else 0) = bo' := ⟨_, rfl⟩
   have hbl : bo' <= 1 := by rw [<- hbo']; split <;> omega
   have hfin : Same l (o.set (j+k) df) j (k+1) /\ val (stretch (o.set (j+k) df) j (k+1)) + d * val v = val (stretch l j (k+1)) + 4294967296 ^ (k+1) * bo' := by
    refine ⟨ho.out.same.step (by rw [hol.out]; omega) (by omega), ?_⟩
    have h1 := ho.out.sum
    rw [List.take_of_length_le (by rw [<- HN.out]; exact Nat.le_refl _)] at h1
    rw [stretch_set _ _ _ _ (by rw [hol.out]; omega), stretch_succ, ho.out.same.at_ hy.out, Nat.pow_succ]
    have h2 := less_arith _ 0 _ _ _ y bo bo' cc 0 0 cc df h1 (by omega) (by split at hbo' <;> omega)
    simpa using h2
   have HF := hide hfin; have HDF := hide hdf; have HBO := hide hbo'
   have hci : (cc : Int) % 4294967296 = (cc : Int) := by omega
   clear hfin hdf hbo'
   go_wp2_with (first
    | ((with_reducible refine (sub32_calls y cc bo df bo' hyl hcc hbo _ HDF.out HBO.out).mono ?_); rintro e w' ⟨rfl, rfl⟩))
   go_ret
   exact ⟨_, bo', rfl, hbl, HF.out.1, HF.out.2, row_set_sp hr' (by rw [hol.out]; omega), only_setCell hg (.inl rfl) _⟩
end Go.Proofs.YtncbebfhakcgdaaGreat
namespace Go.Proofs.YtncbebfhakcgdaaGreat
open Go.RowKit
structure BackRow (l o v : List Nat) (j i c : Nat) : Prop where
 same : Same l o j i
 sum : val (stretch o j i) + 4294967296 ^ i * c = val (stretch l j i) + val (v.take i)
theorem BackRow.start {l v : List Nat} {j : Nat} (h : AllLt l) : BackRow l l v j 0 0 := ⟨Same.refl h j, by simp [stretch_zero]⟩
theorem back_arith (P S L D c y x s : Nat) (h : S + P * c = L + D) (hs : s = y + x + c) : (S + P * (s % 4294967296)) + (P * 4294967296) * (s / 4294967296) = (L + P * y) + (D + P * x) := by
 have e1 := Nat.mod_add_div s 4294967296
 have e2 : P * (s % 4294967296) + (P * 4294967296) * (s / 4294967296) = P * s := by rw [Nat.mul_assoc, <- Nat.mul_add, e1]
 rw [hs, Nat.mul_add, Nat.mul_add] at e2
 rw [hs]
 omega
theorem BackRow.step {l o v : List Nat} {j i c x y : Nat} (h : BackRow l o v j i c) (hi : j + i < o.length) (hx : v[i]? = some x) (hy : o[j+i]? = some y) :
 BackRow l (o.set (j+i) ((y + x + c) % 4294967296)) v j (i+1) ((y + x + c) / 4294967296) := by
 refine ⟨h.same.step hi (Nat.mod_lt _ (by omega)), ?_⟩
 have e2 : val (v.take (i+1)) = val (v.take i) + 4294967296 ^ i * x := by rw [val_take_succ, List.getD_eq_getElem?_getD, hx]; rfl
 rw [stretch_set _ _ _ _ hi, stretch_succ, h.same.at_ hy, e2, Nat.pow_succ]
 exact back_arith _ _ _ _ c y x _ h.sum rfl
set_option maxHeartbeats 1000000 in
theorem back_calls (w : World) (g gv nu cu n cv j : Nat) (l v : List Nat) (sp spv : List Value) (hr : Row w g 160 (nums .u32 l ++ sp)) (hv : Row w gv 160 (nums .u32 v ++ spv)) (hne : gv ≠ g)
 (hl : AllLt l) (hvl : AllLt v) (hn : n = v.length) (hnu : nu = l.length) (hj : j + n < nu) (hbig : nu <= 1000000001) :
 Calls Tryz.prog 190 #[.slice (some ⟨g, 0, none⟩) nu cu, .slice (some ⟨gv, 0, none⟩) n cv, .int .i64 j] w fun e w' =>
  ∃ (o : List Nat) (c : Nat), e = .returned (.tuple #[]) /\ Same l o j (n+1) /\ val (stretch o j (n+1)) + 4294967296 ^ (n+1) * c = val (stretch l j (n+1)) + val v /\ Row w' g 160 (nums .u32 o ++ sp) /\ w.grownBy w' (some g) := by
 have HN := hide hn; have HNU := hide hnu; clear hn hnu
 go_enter Tryz.func190, Tryz.ntmps190
 go_wp2_with fail
 go_loopw [11, 6] (fun i c wr => ∃ k cc o, k <= n /\ cc <= 1 /\ i = .int .i64 ((k : Nat) : Int) /\ c = .int .u32 ((cc : Nat) : Int) /\ Hid (BackRow l o v j k cc) /\ Row wr g 160 (nums .u32 o ++ sp) /\ w.grownBy wr (some g)) (fun i _ _ => (n - intOf i).toNat)
 case atStart => exact ⟨0, 0, _, by omega, by omega, rfl, rfl, hide (BackRow.start hl), hr, World.grownBy.refl _ _⟩
 case round =>
  obtain ⟨k, cc, o, hk, hcc, rfl, rfl, ho, hr', hg⟩ := hrel
  have hol : Hid (o.length = nu) := hide (by rw [ho.out.same.len, HNU.out])
  have hv' := hv.grown hg (by simpa using hne)
  by_cases hkn : k < n
  ·obtain ⟨x, hx, hxc, -⟩ := row_cell_sp hv' (k := k) (by rw [<- HN.out]; exact hkn)
   obtain ⟨y, hy, hyc, hyf⟩ := row_cell_sp hr' (k := j + k) (by rw [hol.out]; omega)
   have hxl : x < 4294967296 := hvl.at_ hx.out
   have hyl : y < 4294967296 := ho.out.same.lt.at_ hy.out
   have HST := hide (ho.out.step (by rw [hol.out]; omega) hx.out hy.out)
   go_wp2_with (first
    | ((with_reducible refine (add32_calls y x cc hyl hxl hcc _).mono ?_); rintro e w' ⟨rfl, rfl⟩))
   go_roundw
   case rel =>
    refine ⟨k+1, (y + x + cc) / 4294967296, _, by omega, by omega, by go_num, rfl, HST, ?_, only_setCell hg (.inl rfl) _⟩
    exact row_set_sp hr' (by rw [hol.out]; omega)
   case measure => simp [intOf]; omega
  ·obtain rfl : k = n := by omega
   obtain ⟨y, hy, hyc, hyf⟩ := row_cell_sp hr' (k := j + k) (by rw [hol.out]; omega)
   have hyl : y < 4294967296 := ho.out.same.lt.at_ hy.out
   have hfin : Same l (o.set (j+k) ((y + cc) % 4294967296)) j (k+1) /\ val (stretch (o.set (j+k) ((y + cc) % 4294967296)) j (k+1)) + 4294967296 ^ (k+1) * ((y + cc) / 4294967296) = val (stretch l j (k+1)) + val v := by
    refine ⟨ho.out.same.step (by rw [hol.out]; omega) (Nat.mod_lt _ (by omega)), ?_⟩
    have h1 := ho.out.sum
    rw [List.take_of_length_le (by rw [<- HN.out]; exact Nat.le_refl _)] at h1
    rw [stretch_set _ _ _ _ (by rw [hol.out]; omega), stretch_succ, ho.out.same.at_ hy.out, Nat.pow_succ]
    have h2 := back_arith _ _ _ _ cc y 0 (y + cc) h1 (by omega)
    simpa using h2
   have HF := hide hfin
   clear hfin
   have hw : IntKind.u32.wrap ((y : Int) + (cc : Int)) = (((y + cc) % 4294967296 : Nat) : Int) := by simp [IntKind.wrap, IntKind.bits, IntKind.signed]
   go_wp2_with fail
   go_end0
   exact ⟨_, _, rfl, HF.out.1, HF.out.2, row_set_sp hr' (by rw [hol.out]; omega), only_setCell hg (.inl rfl) _⟩
structure Guess (high low top next q r : Nat) : Prop where
 div : q * top + r = high
 low' : ∀ t, t < 4294967296 -> t * (top * 4294967296 + next) <= high * 4294967296 + low -> t <= q
structure Guessed (high low top next q : Nat) : Prop where
 low' : ∀ t, t < 4294967296 -> t * (top * 4294967296 + next) <= high * 4294967296 + low -> t <= q
 most : q <= 4294967296
 upp : q * (top * 4294967296 + next) <= high * 4294967296 + low
theorem Guess.start {high low top next : Nat} (ht : 2147483648 <= top) (hl : low < 4294967296) : Guess high low top next (high / top) (high % top) := by
 refine ⟨by rw [Nat.mul_comm]; exact Nat.div_add_mod _ _, fun t ht' h => ?_⟩
 rw [Nat.le_div_iff_mul_le (by omega)]
 have h1 : t * (top * 4294967296) <= t * (top * 4294967296 + next) := Nat.mul_le_mul_left _ (by omega)
 rw [<- Nat.mul_assoc] at h1
 omega
theorem Guess.step {high low top next q r : Nat} (h : Guess high low top next q r) (hn : next < 4294967296) (hl : low < 4294967296) (hq : 4294967296 <= q ∨ r * 4294967296 + low < q * next) : 0 < q /\ Guess high low top next (q - 1) (r + top) := by
 have h0 : 0 < q := by
  rcases Nat.eq_zero_or_pos q with h1 | h1
  ·subst h1; simp at hq
  ·exact h1
 refine ⟨h0, ?_, fun t ht h1 => ?_⟩
 ·have h2 := h.div
  have h3 : (q - 1) * top + top = q * top := by
   have : q = (q - 1) + 1 := by omega
   conv => rhs; rw [this, Nat.add_mul, Nat.one_mul]
  omega
 ·have h2 := h.low' t ht h1
  rcases hq with hq | hq
  ·omega
  ·rcases Nat.lt_or_ge t q with h3 | h3
   ·omega
   ·exfalso
    have h4 : t = q := by omega
    subst h4
    have h5 := h.div
    rw [Nat.mul_add, <- Nat.mul_assoc] at h1
    rw [<- h5] at h1
    omega
theorem Guess.stop {high low top next q r : Nat} (h : Guess high low top next q r) (hq : q <= 4294967296) (hc : q * next <= r * 4294967296 + low) : Guessed high low top next q := by
 refine ⟨h.low', hq, ?_⟩
 have h5 := h.div
 rw [Nat.mul_add, <- Nat.mul_assoc, <- h5]
 omega
theorem Guess.stop2 {high low top next q r : Nat} (h : Guess high low top next q r) (hq : q <= 4294967296) (hn : next < 4294967296) (hr : 4294967296 <= r) : Guessed high low top next q := by
 refine h.stop hq ?_
 have h1 : q * next <= 4294967296 * 4294967295 := Nat.mul_le_mul hq (by omega)
 have h2 : 4294967296 * 4294967296 <= r * 4294967296 := Nat.mul_le_mul_right _ hr
 omega
def GuessRel (high low top next : Nat) (q r : Value) : Prop := ∃ qq rr : Nat, q = .int .u64 (qq : Int) /\ r = .int .u64 (rr : Int) /\ qq <= 4294967297 /\ rr < 4294967296 /\ Hid (Guess high low top next qq rr)
set_option maxHeartbeats 1000000 in
theorem guess_calls (w : World) (u' v' : Value) (u v : List Nat) (n j hi1 hi0 low top next : Nat) (hu : U32s w u' u) (hv : U32s w v' v) (hn : n = v.length) (hn2 : 2 <= n) (hj : j + n < u.length) (hbig : u.length <= 1000000001)
 (e1 : u[j+n]? = some hi1) (e2 : u[j+n-1]? = some hi0) (e3 : u[j+n-2]? = some low) (e4 : v[n-1]? = some top) (e5 : v[n-2]? = some next) (ht : 2147483648 <= top) (hh : hi1 <= top) :
 Calls Tryz.prog 188 #[u', v', .int .i64 j] w fun e w' => ∃ q : Nat, e = .returned (.int .u64 q) /\ Guessed (hi1 * 4294967296 + hi0) low top next q /\ Later w w' := by
 obtain ⟨A, cap, rfl, hcap, hcm, hlt, hc⟩ := hu.form
 obtain ⟨A', cap', rfl, hcap', hcm', hlt', hc'⟩ := hv.form
 have l1 := hlt.at_ e1
 have l2 := hlt.at_ e2
 have l3 := hlt.at_ e3
 have l4 := hlt'.at_ e4
 have l5 := hlt'.at_ e5
 obtain ⟨b1, o1, rfl, hcu⟩ := hc.at_ (k := 0) (by rw [length_nums]; omega)
 obtain ⟨b2, o2, rfl, hcv⟩ := hc'.at_ (k := 0) (by rw [length_nums]; omega)
 have c1 := hcu _ _ (nums_get e1)
 have c2 := hcu _ _ (nums_get e2)
 have c3 := hcu _ _ (nums_get e3)
 have c4 := hcv _ _ (nums_get e4)
 have c5 := hcv _ _ (nums_get e5)
 obtain ⟨nu, hnu⟩ : ∃ nu, nu = u.length := ⟨_, rfl⟩
 rw [<- hnu] at hj hbig hcap; rw [<- hnu, <- hn]
 have a1 : (0 : Int) <= (j : Int) + n - 1 := by omega
 have a2 : (0 : Int) <= (j : Int) + n - 2 := by omega
 obtain ⟨high, hhigh⟩ : ∃ high, high = hi1 * 4294967296 + hi0 := ⟨_, rfl⟩
 have hor : bits .or .u64 ((hi1 : Int) * 4294967296) (hi0 : Int) = (high : Int) := by rw [or_u64 l1 l2, hhigh]
 rw [<- hhigh]
 have hhb : high < 18446744073709551616 := by omega
 have hdiv : high / top <= 4294967297 := by
  have h1 : high < 4294967298 * top := by omega
  have := Nat.div_lt_of_lt_mul (by rw [Nat.mul_comm]; exact h1 : high < top * 4294967298)
  omega
 have hmod : high % top < 4294967296 := Nat.lt_trans (Nat.mod_lt _ (by omega)) l4
 have HG := hide (Guess.start (high := high) (next := next) ht l3)
 obtain ⟨q0, hq0⟩ : ∃ q0, q0 = high / top := ⟨_, rfl⟩
 obtain ⟨r0, hr0⟩ : ∃ r0, r0 = high % top := ⟨_, rfl⟩
 rw [<- hq0, <- hr0] at HG; rw [<- hq0] at hdiv; rw [<- hr0] at hmod
 have hqi : (high : Int) / top = (q0 : Int) := by rw [hq0]; exact (Int.natCast_ediv high top).symm
 have hri : (high : Int) % top = (r0 : Int) := by rw [hr0]; exact (Int.natCast_emod high top).symm
 clear hu hv hc hc' hcu hcv e1 e2 e3 e4 e5 hlt hlt' hn hnu hhigh hq0 hr0
 go_enter Tryz.func188, Tryz.ntmps188
 go_wp2_with fail
 go_quiet (fail)
 go_wp2_with fail
 go_quiet (fail)
 go_wp2_with fail
 go_quiet (fail)
 go_wp2_with fail
 have HRI := hide hri
 clear hqi hri hor
 go_loop [12, 13] (fun q r => GuessRel high low top next q r) (fun q _ => (intOf q).toNat)
 case atStart => exact ⟨q0, r0, rfl, by first | rfl | rw [HRI.out], hdiv, hmod, HG⟩
 case round =>
  obtain ⟨q, r, rfl, rfl, hq, hr, hG⟩ := hrel
  clear c1 c2 c3 c4 c5
  obtain ⟨m, hm⟩ : ∃ m, m = r * 4294967296 + low := ⟨_, rfl⟩
  have hml : m < 18446744073709551616 := by omega
  have hor2 : bits .or .u64 ((r : Int) * 4294967296) (low : Int) = (m : Int) := by rw [or_u64 hr l3, hm]
  obtain ⟨p, hp⟩ : ∃ p, p = q * next := ⟨_, rfl⟩
  have HM := hide hm; have HP := hide hp; clear hm hp
  have hwp : q < 4294967296 -> IntKind.u64.wrap ((q : Int) * (next : Int)) = (p : Int) := fun h => wrap_mul HP.out.symm (by rw [HP.out]; exact mul_bound h l5)
  have HWP := hide hwp; clear hwp
  by_cases hgo : 4294967296 <= q ∨ m < p
  ·obtain ⟨hq0, hst⟩ := hG.out.step l5 l3 (by rw [<- HM.out, <- HP.out]; exact hgo)
   have HST := hide hst; clear hst
   by_cases hqb : 4294967296 <= q
   ·have t1 : (((q : Int) / 4294967296) != 0) = true := by rw [bne_iff_ne]; omega
    clear hgo
    by_cases hbr : 4294967296 <= r + top
    ·have t2 : ((((r : Int) + top) / 4294967296) != 0) = true := by rw [bne_iff_ne]; omega
     have HF := hide (HST.out.stop2 (by omega) l5 hbr)
     go_wp2_with fail
     go_ret
     exact ⟨q-1, by show Ending.returned (.int .u64 ((q : Int) - 1)) = _; congr 2; omega, HF.out, by first | exact (Later.refl w).drewN _ | exact ((Later.refl w).drewN _).drewN _ | exact (((Later.refl w).drewN _).drewN _).drewN _⟩
    ·have t2 : ((((r : Int) + top) / 4294967296) != 0) = false := by rw [bne_eq_false_iff_eq]; omega
     go_wp2_with fail
     go_round
     case rel => exact ⟨q-1, r + top, by go_num, by go_num, by omega, by omega, HST⟩
     case measure => simp [intOf]; omega
   ·have t1 : (((q : Int) / 4294967296) != 0) = false := by rw [bne_eq_false_iff_eq]; omega
    have hwp := HWP.out (by omega)
    have t3 : decide (m < p) = true := by rw [decide_eq_true_iff]; omega
    clear hgo
    by_cases hbr : 4294967296 <= r + top
    ·have t2 : ((((r : Int) + top) / 4294967296) != 0) = true := by rw [bne_iff_ne]; omega
     have HF := hide (HST.out.stop2 (by omega) l5 hbr)
     go_wp2_with fail
     go_ret
     exact ⟨q-1, by show Ending.returned (.int .u64 ((q : Int) - 1)) = _; congr 2; omega, HF.out, by first | exact (Later.refl w).drewN _ | exact ((Later.refl w).drewN _).drewN _ | exact (((Later.refl w).drewN _).drewN _).drewN _⟩
    ·have t2 : ((((r : Int) + top) / 4294967296) != 0) = false := by rw [bne_eq_false_iff_eq]; omega
     go_wp2_with fail
     go_round
     case rel => exact ⟨q-1, r + top, by go_num, by go_num, by omega, by omega, HST⟩
     case measure => simp [intOf]; omega
  ·have t1 : (((q : Int) / 4294967296) != 0) = false := by rw [bne_eq_false_iff_eq]; omega
   have hwp := HWP.out (by omega)
   have t3 : decide (m < p) = false := by rw [decide_eq_false_iff_not]; omega
   have HF := hide (hG.out.stop (by omega) (by rw [<- HM.out, <- HP.out]; omega))
   clear hgo
   go_wp2_with fail
   go_ret
   exact ⟨q, rfl, HF.out, by first | exact (Later.refl w).drewN _ | exact ((Later.refl w).drewN _).drewN _ | exact (((Later.refl w).drewN _).drewN _).drewN _⟩
end Go.Proofs.YtncbebfhakcgdaaGreat
namespace Go.Proofs.YtncbebfhakcgdaaGreat
open Go.RowKit
theorem bitLen_range : ∀ (k x : Nat), x < 2 ^ k -> k <= 32 -> 0 < x -> 2 ^ (Lib.bitLen x - 1) <= x /\ x < 2 ^ Lib.bitLen x /\ 0 < Lib.bitLen x /\ Lib.bitLen x <= k := by
 intro k
 induction k with
 | zero => intro x h _ h0; simp at h; omega
 | succ k ih =>
   intro x h hk h0
   have h32 : 2 ^ (k+1) <= 2 ^ 32 := Nat.pow_le_pow_right (by omega) hk
   have hb := Lib.bitLen_half x (by omega) (by omega)
   by_cases h1 : x / 2 = 0
   ·have hx : x = 1 := by omega
    subst hx
    rw [hb]
    have : Lib.bitLen (1 / 2) = 0 := by decide
    rw [this]; simp
   ·obtain ⟨i1, i2, i3, i4⟩ := ih (x / 2) (by rw [Nat.pow_succ] at h; omega) (by omega) (by omega)
    rw [hb]
    have e1 : 1 + Lib.bitLen (x / 2) - 1 = (Lib.bitLen (x / 2) - 1) + 1 := by omega
    have e2 : 1 + Lib.bitLen (x / 2) = Lib.bitLen (x / 2) + 1 := by omega
    rw [e1, e2, Nat.pow_succ, Nat.pow_succ]
    omega
theorem lead_range {x s : Nat} (h0 : 0 < x) (h : x < 4294967296) (hs : s = 32 - Lib.bitLen x) : s < 32 /\ 2147483648 <= x * 2 ^ s /\ (x + 1) * 2 ^ s <= 4294967296 := by
 obtain ⟨h1, h2, h3, h4⟩ := bitLen_range 32 x h (Nat.le_refl _) h0
 subst hs
 refine ⟨by omega, ?_, ?_⟩
 ·have := Nat.mul_le_mul_right (2 ^ (32 - Lib.bitLen x)) h1
  rw [<- Nat.pow_add] at this
  have e : Lib.bitLen x - 1 + (32 - Lib.bitLen x) = 31 := by omega
  rw [e] at this; exact this
 ·have := Nat.mul_le_mul_right (2 ^ (32 - Lib.bitLen x)) (show x + 1 <= 2 ^ Lib.bitLen x from h2)
  rw [<- Nat.pow_add] at this
  have e : Lib.bitLen x + (32 - Lib.bitLen x) = 32 := by omega
  rw [e] at this; exact this
theorem val_drop (l : List Nat) (k : Nat) (h : AllLt l) : val (l.drop k) = val l / 4294967296 ^ k := by
 by_cases hk : k <= l.length
 ·have h1 := val_take_drop l k hk
  have h2 := val_lt (h.take k)
  rw [List.length_take, Nat.min_eq_left hk] at h2
  rw [h1, Nat.add_comm, Nat.mul_add_div (Nat.pow_pos (by omega)), Nat.div_eq_of_lt h2, Nat.add_zero]
 ·have h2 := val_lt h
  have h3 : 4294967296 ^ l.length <= 4294967296 ^ k := Nat.pow_le_pow_right (by omega) (by omega)
  rw [List.drop_of_length_le (by omega), Nat.div_eq_of_lt (by omega)]; rfl
theorem drop_cons {l : List Nat} {k x : Nat} (hx : l[k]? = some x) : val (l.drop k) = x + 4294967296 * val (l.drop (k+1)) := by
 obtain ⟨h, rfl⟩ := List.getElem?_eq_some_iff.1 hx
 rw [List.drop_eq_getElem_cons h]; rfl
theorem stretch_drop (l : List Nat) (j k : Nat) (h : j + k <= l.length) : val (l.drop j) = val (stretch l j k) + 4294967296 ^ k * val (l.drop (j + k)) := by
 unfold stretch
 rw [val_take_drop (l.drop j) k (by simp; omega), List.drop_drop]
theorem guess_range {W V T W3 p q : Nat} (hp : 0 < p) (hT : T * p <= V) (hT2 : V < (T + 1) * p) (hW : W3 * p <= W) (hW2 : W < (W3 + 1) * p) (hWV : W < 4294967296 * V) (hTb : 4294967296 <= T)
 (hl : ∀ t, t < 4294967296 -> t * T <= W3 -> t <= q) (hm : q <= 4294967296) (hu : q * T <= W3) : W / V <= q /\ q <= W / V + 1 := by
 have hV : 0 < V := by
  rcases Nat.eq_zero_or_pos V with h | h
  ·subst h; omega
  ·exact h
 have hq : W / V < 4294967296 := Nat.div_lt_of_lt_mul (by rw [Nat.mul_comm]; exact hWV)
 have hd := Nat.div_mul_le_self W V
 constructor
 ·refine hl _ hq ?_
  have h1 : W / V * T * p <= W / V * V := by rw [Nat.mul_assoc]; exact Nat.mul_le_mul_left _ hT
  have h2 : W / V * T * p < (W3 + 1) * p := Nat.lt_of_le_of_lt (Nat.le_trans h1 hd) hW2
  have h3 := Nat.lt_of_mul_lt_mul_right h2
  omega
 ·refine Classical.byContradiction fun hn => ?_
  have hlt : W / V + 1 < q := Nat.lt_of_not_le hn
  have hpos : 0 < q := Nat.lt_of_le_of_lt (Nat.zero_le _) hlt
  obtain ⟨r, hr⟩ : ∃ r, q = r + 1 := ⟨q - 1, by omega⟩
  have hlr : W / V + 1 <= r := by rw [hr] at hlt; exact Nat.le_of_lt_succ hlt
  have h1 : W < (W / V + 1) * V := by
   have := Nat.lt_div_mul_add (a := W) hV
   rw [Nat.add_mul, Nat.one_mul]; exact this
  have h2 : (W / V + 1) * V <= r * V := Nat.mul_le_mul_right _ hlr
  have h3 : r * V <= r * ((T + 1) * p) := Nat.mul_le_mul_left _ (Nat.le_of_lt hT2)
  have h4 : q * T * p <= W3 * p := Nat.mul_le_mul_right _ hu
  have h5 : q * T * p < r * ((T + 1) * p) := Nat.lt_of_le_of_lt (Nat.le_trans h4 hW) (Nat.lt_of_lt_of_le h1 (Nat.le_trans h2 h3))
  rw [<- Nat.mul_assoc] at h5
  have h6 := Nat.lt_of_mul_lt_mul_right h5
  rw [hr, Nat.add_mul, Nat.one_mul, Nat.mul_add, Nat.mul_one] at h6
  omega
structure LongInv (U V na n : Nat) (ul ql : List Nat) (m : Nat) : Prop where
 ulen : ul.length = na + 1
 ult : AllLt ul
 qlen : ql.length = na - n + 1
 qlt : AllLt ql
 sum : val ul + V * (4294967296 ^ m * val (ql.drop m)) = U
 small : val (ul.drop m) < V
theorem same_val {l o : List Nat} {j k : Nat} (h : Same l o j k) (hk : j + k <= l.length) {X Y : Nat} (hX : val (stretch l j k) = X) (hY : val (stretch o j k) = Y) : val o + 4294967296 ^ j * X = val l + 4294967296 ^ j * Y := by
 have h1 := val_take_drop l j (by omega)
 have h2 := val_take_drop o j (by rw [h.len]; omega)
 rw [stretch_drop l j k hk, hX, Nat.mul_add] at h1
 rw [stretch_drop o j k (by rw [h.len]; omega), hY, h.low, h.high, Nat.mul_add] at h2
 omega
theorem long_arith {o ul U P X Y Z R : Nat} (h1 : o + P * X = ul + P * Y) (h3 : ul + R = U) (e2 : X = Y + Z) : o + (P * Z + R) = U := by
 subst e2; rw [Nat.mul_add] at h1; omega
theorem rest_zero {d st r P B V : Nat} (hsd : d = st + P * r) (hd : d < B * V) (hP : B * V <= P) : r = 0 := by
 rcases Nat.eq_zero_or_pos r with h0 | h0
 ·exact h0
 ·have h1 := Nat.mul_le_mul_left P h0
  omega
theorem sub_div_lt (X : Nat) {V : Nat} (h : 0 < V) : X - X / V * V < V := by
 have h1 := Nat.mod_lt X h
 have h2 := Nat.div_add_mod' X V
 generalize X / V * V = Y at *
 omega
theorem head_lt {d x r V : Nat} (h : d = x + 4294967296 * r) (hx : x < 4294967296) (hr : r < V) : d < 4294967296 * V := by omega
theorem LongInv.step {U V na n j : Nat} {ul ql o : List Nat} {X : Nat} (h : LongInv U V na n ul ql (j+1)) (hn : n <= na) (hj : j + n <= na) (hV : V < 4294967296 ^ n) (hX : X = val (stretch ul j (n+1)))
 (hs : Same ul o j (n+1)) (hv : val (stretch o j (n+1)) = X - X / V * V) : X < 4294967296 * V /\ LongInv U V na n o (ql.set j (X / V)) j := by
 have hV0 : 0 < V := by have := h.small; omega
 have hu := h.ulen
 obtain ⟨x, hx⟩ : ∃ x, ul[j]? = some x := ⟨ul[j]'(by omega), List.getElem?_eq_getElem (by omega)⟩
 have hxl := h.ult.at_ hx
 have hW := drop_cons hx
 have hsm := h.small
 have hWV : val (ul.drop j) < 4294967296 * V := head_lt hW hxl hsm
 have hsd := stretch_drop ul j (n+1) (by omega)
 have hrest : val (ul.drop (j + (n+1))) = 0 :=
  rest_zero hsd hWV (by rw [Nat.pow_succ, Nat.mul_comm]; exact Nat.mul_le_mul_right _ (Nat.le_of_lt hV))
 rw [hrest, Nat.mul_zero, Nat.add_zero, <- hX] at hsd
 rw [hsd] at hWV
 have hq : X / V < 4294967296 := Nat.div_lt_of_lt_mul (by rw [Nat.mul_comm]; exact hWV)
 have hle := Nat.div_mul_le_self X V
 have hod : val (o.drop j) = X - X / V * V := by
  rw [stretch_drop o j (n+1) (by rw [hs.len]; omega), hv, hs.high, hrest, Nat.mul_zero, Nat.add_zero]
 refine ⟨hWV, by rw [hs.len, hu], hs.lt, by simp [h.qlen], h.qlt.set _ _ hq, ?_, ?_⟩
 ·have h1 := same_val hs (by omega) hX.symm hv
  have h2 : val ((ql.set j (X / V)).drop j) = X / V + 4294967296 * val (ql.drop (j+1)) := by
   have hjq : j < ql.length := by rw [h.qlen]; omega
   rw [drop_cons (x := X / V) (by simp [hjq]), List.drop_set_of_lt (by omega)]
  have h3 := h.sum
  rw [h2]
  have e1 : V * (4294967296 ^ j * (X / V + 4294967296 * val (ql.drop (j+1)))) = 4294967296 ^ j * (X / V * V) + V * (4294967296 ^ (j+1) * val (ql.drop (j+1))) := by
   rw [Nat.mul_add, Nat.mul_add, Nat.pow_succ]
   congr 1
   ·rw [Nat.mul_comm V, Nat.mul_assoc]
   ·rw [Nat.mul_assoc]
  rw [e1]
  exact long_arith h1 h3 (Nat.sub_add_cancel hle).symm
 ·rw [hod]; exact sub_div_lt X hV0
theorem LongInv.bound {U V na n j : Nat} {ul ql : List Nat} (h : LongInv U V na n ul ql (j+1)) (hj : j + n <= na) : val (stretch ul j (n+1)) < 4294967296 * V := by
 have hu := h.ulen
 obtain ⟨x, hx⟩ : ∃ x, ul[j]? = some x := ⟨ul[j]'(by omega), List.getElem?_eq_getElem (by omega)⟩
 have hWV := head_lt (drop_cons hx) (h.ult.at_ hx) h.small
 have hsd := stretch_drop ul j (n+1) (by omega)
 exact Nat.lt_of_le_of_lt (by rw [hsd]; exact Nat.le_add_right _ _) hWV
theorem LongInv.done {U V na n : Nat} {ul ql : List Nat} (h : LongInv U V na n ul ql 0) : val ql = U / V /\ val ul = U % V := by
 have h1 := h.sum
 have h2 := h.small
 simp only [List.drop_zero, Nat.pow_zero, Nat.one_mul] at h1 h2
 have hV : 0 < V := by omega
 constructor
 ·rw [<- h1, Nat.add_mul_div_left _ _ hV, Nat.div_eq_of_lt h2, Nat.zero_add]
 ·rw [<- h1, Nat.add_mul_mod_self_left, Nat.mod_eq_of_lt h2]
theorem scaled_div {m d p : Nat} (hp : 0 < p) : m * p / (d * p) = m / d /\ m * p % (d * p) = (m % d) * p :=
 ⟨Nat.mul_div_mul_right _ _ hp, Nat.mul_mod_mul_right _ _ _⟩
structure Unshift (R s n : Nat) (o : List Nat) (k : Nat) : Prop where
 len : o.length = n
 lt : AllLt o
 sum : val (o.take k) = R % 4294967296 ^ k
theorem Unshift.start (R s n : Nat) : Unshift R s n (List.replicate n 0) 0 := ⟨by simp, AllLt.replicate _, by simp [Nat.mod_one]⟩
theorem mod_pow_succ (R k : Nat) : R % 4294967296 ^ (k+1) = R % 4294967296 ^ k + 4294967296 ^ k * (R / 4294967296 ^ k % 4294967296) := by
 rw [Nat.pow_succ, Nat.mod_mul]
theorem Unshift.step {R s n k x y : Nat} {o ul : List Nat} (h : Unshift R s n o k) (hk : k < n) (hs : s < 32) (hl : AllLt ul) (hR : val ul = R * 2 ^ s) (hx : ul[k]? = some x) (hy : ul[k+1]? = some y) :
 Unshift R s n (o.set k ((y * 4294967296 + x) / 2 ^ s % 4294967296)) (k+1) := by
 refine ⟨by simp [h.len], h.lt.set _ _ (Nat.mod_lt _ (by omega)), ?_⟩
 rw [val_set_take _ _ _ (by rw [h.len]; exact hk), h.sum, mod_pow_succ]
 congr 2
 have e1 := drop_cons hx
 have e2 := drop_cons hy
 rw [val_drop ul k hl, hR] at e1
 obtain ⟨t, ht⟩ : ∃ t, t = val (ul.drop (k+1+1)) := ⟨_, rfl⟩
 rw [<- ht] at e2
 rw [e2] at e1
 have e3 : R / 4294967296 ^ k = R * 2 ^ s / 4294967296 ^ k / 2 ^ s := by
  rw [Nat.div_div_eq_div_mul, Nat.mul_comm (4294967296 ^ k), <- Nat.div_div_eq_div_mul, Nat.mul_div_cancel _ (Nat.two_pow_pos s)]
 rw [e3, e1]
 have e4 : x + 4294967296 * (y + 4294967296 * t) = (y * 4294967296 + x) + 2 ^ s * (2 ^ (32 - s) * 4294967296 * t) := by
  rw [<- Nat.mul_assoc, <- Nat.mul_assoc, <- pow32 hs]; omega
 rw [e4, Nat.add_mul_div_left _ _ (Nat.two_pow_pos s)]
 have e5 : 2 ^ (32 - s) * 4294967296 * t = 4294967296 * (2 ^ (32 - s) * t) := by rw [Nat.mul_comm (2 ^ (32-s)), Nat.mul_assoc]
 rw [e5, Nat.add_mul_mod_self_left]
theorem Unshift.done {R s n : Nat} {o : List Nat} (h : Unshift R s n o n) (hR : R < 4294967296 ^ n) : val o = R := by
 have h1 := h.sum
 rwa [List.take_of_length_le (by rw [h.len]; exact Nat.le_refl _), Nat.mod_eq_of_lt hR] at h1
theorem bracket {v t p m : Nat} (h1 : v = t + m * p) (h3 : t < p) : m * p <= v /\ v < (m + 1) * p := by
 rw [Nat.add_mul, Nat.one_mul]; generalize m * p = x at *; omega
theorem top_two {v : List Nat} {n top next : Nat} (hn : n = v.length) (hn2 : 2 <= n) (hl : AllLt v) (e4 : v[n-1]? = some top) (e5 : v[n-2]? = some next) :
 (top * 4294967296 + next) * 4294967296 ^ (n-2) <= val v /\ val v < (top * 4294967296 + next + 1) * 4294967296 ^ (n-2) := by
 have h1 := val_take_drop v (n-2) (by omega)
 have h2 := drop_cons e5
 have e : n - 2 + 1 = n - 1 := by omega
 rw [e, drop_cons e4, List.drop_of_length_le (l := v) (i := n - 1 + 1) (by omega)] at h2
 have h3 := val_lt (hl.take (n-2))
 rw [List.length_take, Nat.min_eq_left (by omega)] at h3
 have h4 : val (v.drop (n-2)) = top * 4294967296 + next := by rw [h2, val_nil]; omega
 rw [h4, Nat.mul_comm] at h1
 exact bracket h1 h3
theorem top_one {v : List Nat} {n top : Nat} (hn : n = v.length) (hn2 : 1 <= n) (hl : AllLt v) (e4 : v[n-1]? = some top) : top * 4294967296 ^ (n-1) <= val v /\ val v < (top + 1) * 4294967296 ^ (n-1) := by
 have h1 := val_take_drop v (n-1) (by omega)
 have h2 := drop_cons e4
 have e : n - 1 + 1 = n := by omega
 rw [e, List.drop_of_length_le (l := v) (i := n) (by omega)] at h2
 have h3 := val_lt (hl.take (n-1))
 rw [List.length_take, Nat.min_eq_left (by omega)] at h3
 have h4 : val (v.drop (n-1)) = top := by rw [h2, val_nil]; omega
 rw [h4, Nat.mul_comm] at h1
 exact bracket h1 h3
theorem stretch_len {l : List Nat} {j k : Nat} (h : j + k <= l.length) : (stretch l j k).length = k := by unfold stretch; simp; omega
theorem stretch_get {l : List Nat} {j k i : Nat} (h : i < k) : (stretch l j k)[i]? = l[j+i]? := by unfold stretch; rw [List.getElem?_take_of_lt h, List.getElem?_drop]
theorem stretch_all {l : List Nat} (h : AllLt l) (j k : Nat) : AllLt (stretch l j k) := (h.drop j).take k
theorem top_three {l : List Nat} {n hi1 hi0 low : Nat} (hn : l.length = n + 1) (hn2 : 2 <= n) (hl : AllLt l) (e1 : l[n]? = some hi1) (e2 : l[n-1]? = some hi0) (e3 : l[n-2]? = some low) :
 ((hi1 * 4294967296 + hi0) * 4294967296 + low) * 4294967296 ^ (n-2) <= val l /\ val l < ((hi1 * 4294967296 + hi0) * 4294967296 + low + 1) * 4294967296 ^ (n-2) := by
 have h1 := val_take_drop l (n-2) (by omega)
 have h2 := drop_cons e3
 have e : n - 2 + 1 = n - 1 := by omega
 have e' : n - 1 + 1 = n := by omega
 rw [e, drop_cons e2, e', drop_cons e1, List.drop_of_length_le (l := l) (i := n + 1) (by omega)] at h2
 have h3 := val_lt (hl.take (n-2))
 rw [List.length_take, Nat.min_eq_left (by omega)] at h3
 have h4 : val (l.drop (n-2)) = (hi1 * 4294967296 + hi0) * 4294967296 + low := by rw [h2, val_nil]; omega
 rw [h4, Nat.mul_comm] at h1
 exact bracket h1 h3
theorem high_le {ul v : List Nat} {n j hi1 top V : Nat} (hn : n = v.length) (hn2 : 2 <= n) (hul : AllLt ul) (hv : AllLt v) (hV : V = val v) (e1 : ul[j+n]? = some hi1) (e4 : v[n-1]? = some top) (hs : val (ul.drop (j+1)) < V) : hi1 <= top := by
 have h1 := (top_one hn (by omega) hv e4).2
 have hj := (List.getElem?_eq_some_iff.1 e1).1
 have h2 := stretch_drop ul (j+1) (n-1) (by omega)
 have e : j + 1 + (n-1) = j + n := by omega
 rw [e, drop_cons e1] at h2
 have h3 : hi1 * 4294967296 ^ (n-1) < (top + 1) * 4294967296 ^ (n-1) := by
  have h4 : 4294967296 ^ (n-1) * hi1 <= 4294967296 ^ (n-1) * (hi1 + 4294967296 * val (ul.drop (j+n+1))) := Nat.mul_le_mul_left _ (by omega)
  rw [Nat.mul_comm hi1]
  generalize 4294967296 ^ (n-1) * hi1 = m at *
  generalize 4294967296 ^ (n-1) * (hi1 + 4294967296 * val (ul.drop (j+n+1))) = m2 at *
  generalize (top + 1) * 4294967296 ^ (n-1) = m3 at *
  omega
 have := Nat.lt_of_mul_lt_mul_right h3
 omega
theorem guess_ok {ul v : List Nat} {n j hi1 hi0 low top next V X q : Nat} (hn : n = v.length) (hn2 : 2 <= n) (hul : AllLt ul) (hv : AllLt v) (hV : V = val v) (hX : X = val (stretch ul j (n+1))) (hj : j + n < ul.length)
 (e1 : ul[j+n]? = some hi1) (e2 : ul[j+n-1]? = some hi0) (e3 : ul[j+n-2]? = some low) (e4 : v[n-1]? = some top) (e5 : v[n-2]? = some next) (ht : 2147483648 <= top) (hXV : X < 4294967296 * V)
 (hg : Guessed (hi1 * 4294967296 + hi0) low top next q) : X / V <= q /\ q <= X / V + 1 := by
 have h1 := top_two hn hn2 hv e4 e5
 have h2 := top_three (l := stretch ul j (n+1)) (n := n) (hi1 := hi1) (hi0 := hi0) (low := low) (stretch_len (by omega)) hn2 (stretch_all hul _ _) (by rw [stretch_get (by omega)]; exact e1)
  (by rw [stretch_get (by omega), <- e2]; congr 1; omega) (by rw [stretch_get (by omega), <- e3]; congr 1; omega)
 rw [<- hX] at h2; rw [<- hV] at h1
 exact guess_range (Nat.pow_pos (by omega)) h1.1 h1.2 h2.1 h2.2 hXV (by omega) hg.low' hg.most hg.upp
theorem less_zero {S q V X : Nat} (h : S + q * V = X) (hr : X / V <= q) (hV : 0 < V) : q = X / V /\ S = X - X / V * V := by
 have h1 : q <= X / V := by rw [Nat.le_div_iff_mul_le hV]; omega
 have h2 : q = X / V := Nat.le_antisymm h1 hr
 refine ⟨h2, ?_⟩
 rw [<- h2]; omega
theorem less_one {S q V X P S' c : Nat} (h : S + q * V = X + P) (hS : S < P) (hr : q <= X / V + 1) (hV : 0 < V) (hVP : V <= P) (h' : S' + P * c = S + V) (hS' : S' < P) : q - 1 = X / V /\ 0 < q /\ S' = X - X / V * V := by
 have h1 : X / V < q := by rw [Nat.div_lt_iff_lt_mul hV]; omega
 have h2 : q = X / V + 1 := Nat.le_antisymm hr h1
 have h3 := sub_div_lt X hV
 have h4 := Nat.div_mul_le_self X V
 have hq0 : 0 < q := Nat.lt_of_le_of_lt (Nat.zero_le _) h1
 have h5 : q - 1 = X / V := by rw [h2]; rfl
 refine ⟨h5, hq0, ?_⟩
 rw [h2, Nat.add_mul, Nat.one_mul] at h
 generalize X / V * V = Y at *
 have hc : c = 1 := by
  rcases Nat.lt_trichotomy c 1 with h6 | h6 | h6
  ·have : c = 0 := by omega
   subst this; simp only [Nat.mul_zero, Nat.add_zero] at h'; omega
  ·exact h6
  ·have := Nat.mul_le_mul_left P (show 2 <= c from h6)
   omega
 subst hc
 rw [Nat.mul_one] at h'
 omega
theorem Same.trans {l o u : List Nat} {j k : Nat} (h : Same l o j k) (h' : Same o u j k) : Same l u j k := ⟨h'.len.trans h.len, h'.lt, h'.low.trans h.low, h'.high.trans h.high⟩
theorem LongInv.start {a u : List Nat} {V na n s d : Nat} (hn : n <= na) (hna : na = a.length) (ha : AllLt a) (hul : u.length = na + 1) (hult : AllLt u) (hu : val u = val a * 2 ^ s) (hV : V = d * 2 ^ s) (hd : 4294967296 ^ (n-1) <= d) (hn1 : 1 <= n) :
 LongInv (val a * 2 ^ s) V na n u (List.replicate (na - n + 1) 0) (na - n + 1) := by
 refine ⟨hul, hult, by simp, AllLt.replicate _, ?_, ?_⟩
 ·rw [List.drop_of_length_le (l := List.replicate (na - n + 1) 0) (i := na - n + 1) (by simp), val_nil, Nat.mul_zero, Nat.mul_zero, Nat.add_zero]; exact hu
 ·rw [val_drop u _ hult, hu, Nat.div_lt_iff_lt_mul (Nat.pow_pos (by omega)), hV]
  have h1 := val_lt ha
  rw [<- hna] at h1
  have h2 : 4294967296 ^ na = 4294967296 ^ (n-1) * 4294967296 ^ (na - n + 1) := by rw [<- Nat.pow_add]; congr 1; omega
  have h3 : val a * 2 ^ s < 4294967296 ^ na * 2 ^ s := Nat.mul_lt_mul_of_pos_right h1 (Nat.two_pow_pos s)
  have h4 : 4294967296 ^ na * 2 ^ s <= d * 2 ^ s * 4294967296 ^ (na - n + 1) := by
   rw [h2, Nat.mul_right_comm]
   exact Nat.mul_le_mul_right _ (Nat.mul_le_mul_right _ hd)
  exact Nat.lt_of_lt_of_le h3 h4
theorem shifted {b v0 : List Nat} {n x s : Nat} (hn : n = b.length) (hn1 : 1 <= n) (hb : AllLt b) (hx : b[n-1]? = some x) (h2 : 2147483648 <= x * 2 ^ s) (h3 : (x + 1) * 2 ^ s <= 4294967296) (hl : v0.length = n + 1) (hlt : AllLt v0) (hv : val v0 = val b * 2 ^ s) :
 val (v0.take n) = val b * 2 ^ s /\ (∀ top, (v0.take n)[n-1]? = some top -> 2147483648 <= top) /\ val b * 2 ^ s < 4294967296 ^ n := by
 have h1 := top_one hn hn1 hb hx
 have e : 4294967296 ^ n = 4294967296 ^ (n-1) * 4294967296 := by rw [<- Nat.pow_succ]; congr 1; omega
 have h4 : val b * 2 ^ s < 4294967296 ^ n := by
  have h5 : val b * 2 ^ s < (x + 1) * 4294967296 ^ (n-1) * 2 ^ s := Nat.mul_lt_mul_of_pos_right h1.2 (Nat.two_pow_pos s)
  rw [Nat.mul_right_comm] at h5
  have h6 := Nat.mul_le_mul_right (4294967296 ^ (n-1)) h3
  rw [e, Nat.mul_comm (4294967296 ^ (n-1))]
  exact Nat.lt_of_lt_of_le h5 h6
 have h7 := take_of_lt (b := v0) (n := n) (by rw [hv]; exact h4)
 rw [hv] at h7
 refine ⟨h7, fun top ht => ?_, h4⟩
 have h8 := (top_one (v := v0.take n) (by simp; omega) hn1 (hlt.take n) ht).2
 rw [h7] at h8
 have h9 : x * 4294967296 ^ (n-1) * 2 ^ s <= val b * 2 ^ s := Nat.mul_le_mul_right _ h1.1
 rw [Nat.mul_right_comm] at h9
 have h10 := Nat.mul_le_mul_right (4294967296 ^ (n-1)) h2
 have h11 := Nat.lt_of_mul_lt_mul_right (Nat.lt_of_le_of_lt (Nat.le_trans h10 h9) h8)
 omega
end Go.Proofs.YtncbebfhakcgdaaGreat
