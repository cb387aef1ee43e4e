/- The reference's digits: at, cut, Digits, Limbs, Trim. -/
import Derived.Test.YtncbebfhakcgdaaGreatC4
import Derived.Test.YtncbebfhakcgdaaGreatC5
set_option linter.unusedVariables false
set_option linter.unusedSimpArgs false
set_option maxRecDepth 100000
namespace Go.Proofs.YtncbebfhakcgdaaGreat
open Go.RowKit
def DigsAt (w : World) (v : Value) (l : List Nat) : Prop := AllD l /\ IsNums .i64 w v l
theorem DigsAt.later {w w' : World} {v : Value} {l : List Nat} (h : DigsAt w v l) (hb : Later w w') : DigsAt w' v l := ⟨h.1, h.2.later hb⟩
def OwnD (w : World) (B : Nat) (v : Value) (l : List Nat) : Prop := AllD l /\ OwnNums .i64 3 w B v l
theorem OwnD.reads {w : World} {B : Nat} {v : Value} {l : List Nat} (h : OwnD w B v l) : DigsAt w v l := ⟨h.1, h.2.reads⟩
theorem OwnD.later {w w' : World} {B : Nat} {v : Value} {l : List Nat} (h : OwnD w B v l) (hb : Later w w') : OwnD w' B v l := ⟨h.1, h.2.later hb⟩
theorem OwnD.weaken {w : World} {B B' : Nat} {v : Value} {l : List Nat} (h : OwnD w B v l) (hB : B' <= B) : OwnD w B' v l := ⟨h.1, h.2.weaken hB⟩
theorem OwnD.nil (w : World) (B : Nat) : OwnD w B (.slice none 0 0) [] := ⟨AllD.nil, OwnNums.nil _ _ w B⟩
theorem ownNums_take {w : World} {B : Nat} {q : IntKind} {T : TypeId} {A : Option Addr} {n c k : Nat} {l : List Nat} (h : OwnNums q T w B (.slice A n c) l) (hk : k <= n) : OwnNums q T w B (.slice A k c) (l.take k) := by
 rcases h.row with ⟨e, rfl⟩ | ⟨g, cap, sp, e, hB, hr, hl, hm⟩
 ·injection e with e1 e2 e3
  have : k = 0 := by omega
  subst this e1 e3
  exact OwnNums.nil _ _ w B
 ·injection e with e1 e2 e3
  subst e1 e2 e3
  have hlen := h.1
  refine ⟨by rw [length_nums, Nat.mul_one], .inr ⟨g, c, (nums q l ++ sp).toArray, by rw [List.length_take, Nat.min_eq_left hk], hB, hr, by rw [List.length_take]; omega, hm, ?_, ?_⟩⟩
  ·obtain ⟨-, h3⟩ := h
   rcases h3 with ⟨h3, -⟩ | ⟨g', cap', cur, e, hb, hg, hn', hm', hs', ht'⟩
   ·cases h3
   ·injection e with e1 e2 e3
    injection e1 with e1; injection e1 with e1
    subst e1 e3
    have hr2 : w.heap[g]? = some (.cells (nums q l ++ sp).toArray T (0, 0)) := hr
    rw [hg] at hr2
    injection hr2 with hr2; injection hr2 with hr2
    rw [<- hr2, hs']
  ·show List.take _ (nums q l ++ sp) = _
   rw [List.length_take, Nat.min_eq_left hk, Nat.mul_one, List.take_append_of_le_length (by rw [length_nums]; exact hk), nums_take]
theorem OwnD.take {w : World} {B : Nat} {A : Option Addr} {n c k : Nat} {l : List Nat} (h : OwnD w B (.slice A n c) l) (hk : k <= n) : OwnD w B (.slice A k c) (l.take k) := ⟨h.1.take k, ownNums_take h.2 hk⟩
theorem info_int : (Tryz.prog.info? 3).map (fun i => (i.zero, i.size, i.bytes)) = some (some (.int .i64 0), 1, 8) := by kernel_rfl
set_option maxHeartbeats 400000 in
theorem at_calls (w : World) (v : Value) (l : List Nat) (h : DigsAt w v l) (i x : Nat) (hi : i <= 4000000000) (hx : l.getD i 0 = x) :
 Calls Tryz.prog 174 #[v, .int .i64 i] w fun e w' => e = .returned (.int .i64 x) /\ w = w' := by
 have HX := hide hx; clear hx
 obtain ⟨A, cap, rfl, hcap, hcm, hc⟩ := h.2.form
 by_cases hlt' : i < l.length
 ·obtain ⟨b, off, y, rfl, hy, hcell⟩ := num_at hc hlt'
  have hf : Hid (y = x) := hide (by rw [<- HX.out, List.getD_eq_getElem?_getD, hy.out]; rfl)
  clear hc hy h
  have hd : decide ((i : Int) < l.length) = true := by simp; omega
  go_enter Tryz.func174, Tryz.ntmps174
  go_wp2
  go_ret
  exact ⟨by rw [<- hf.out]; rfl, rfl⟩
 ·have hf : Hid (x = 0) := hide (by rw [<- HX.out, List.getD_eq_getElem?_getD, List.getElem?_eq_none (by omega)]; rfl)
  clear hc h
  have hd : decide ((i : Int) < l.length) = false := by simp; omega
  go_enter Tryz.func174, Tryz.ntmps174
  go_wp2
  go_ret
  refine ⟨by rw [hf.out]; rfl, rfl⟩
def CutPost (w : World) (A : Option Addr) (n c : Nat) (l : List Nat) (e : Ending) (w' : World) : Prop := ∃ k, e = .returned (.slice A k c) /\ k <= n /\ l.take k = digs (dval l) /\ w = w'
set_option maxHeartbeats 1000000 in
theorem cut_calls (w : World) (A : Option Addr) (n c : Nat) (l : List Nat) (h : DigsAt w (.slice A n c) l) (hl : l.length <= 4000000000) :
 Calls Tryz.prog 172 #[.slice A n c] w (CutPost w A n c l) := by
 obtain ⟨A', cap, e, hcap, hcm, hc⟩ := h.2.form
 injection e with e1 e2 e3
 subst e1 e3
 have hD := hide h.1
 rw [<- e2] at hl hcap
 have HN := hide e2; clear e2 h
 go_enter Tryz.func172, Tryz.ntmps172
 go_wp2
 go_loop [0] (fun d => ∃ k : Nat, k <= n /\ d = .slice A k c /\ Hid (dval (l.drop k) = 0)) (fun d => match d with | .slice _ k _ => k | _ => 0)
 case atStart => exact ⟨n, Nat.le_refl _, rfl, hide (by rw [HN.out]; simp)⟩
 case round =>
  obtain ⟨k, hk, rfl, hz⟩ := hrel
  by_cases hgo : 0 < k /\ l[k-1]? = some 0
  ·obtain ⟨h0, hx0⟩ := hgo
   have HX0 := hide hx0; clear hx0
   obtain ⟨b, off, x, rfl, hx, hcell⟩ := num_at hc (k := k - 1) (by have := HN.out; omega)
   obtain rfl : x = 0 := by have h1 := hx.out; rw [HX0.out] at h1; simpa using h1.symm
   go_wp2
   go_round
   case rel =>
    refine ⟨k - 1, by omega, by go_num, hide ?_⟩
    have h1 : l.drop (k-1) = 0 :: l.drop k := by
     have h2 := HX0.out
     rw [List.getElem?_eq_some_iff] at h2
     obtain ⟨h3, h4⟩ := h2
     rw [List.drop_eq_getElem_cons h3, h4]
     congr 2; omega
    rw [h1, dval_cons, hz.out]
   case measure => simp; omega
  ·have hfin := hide (digs_take hD.out (by rw [<- HN.out]; exact hk) hz.out (fun x hk0 hx hx0 => hgo ⟨hk0, by rw [<- hx0]; exact hx⟩))
   have htest : (0 < k /\ ∃ b off, ∃ x : Nat, A = some ⟨b, off, none⟩ /\ ((x : Int) == 0) = false /\ w.cell? ⟨b, off + (k - 1), none⟩ = some (.int .i64 (x : Int))) ∨ ¬ 0 < k := by
    by_cases h0 : 0 < k
    ·obtain ⟨b, off, x, rfl, hx, hcell⟩ := num_at hc (k := k - 1) (by have := HN.out; omega)
     refine .inl ⟨h0, b, off, x, rfl, ?_, hcell⟩
     rw [beq_eq_false_iff_ne]
     intro hx0
     have : x = 0 := by omega
     subst this
     exact hgo ⟨h0, hx.out⟩
    ·exact .inr h0
   clear hgo
   rcases htest with ⟨h0, b, off, x, rfl, hxt, hcell⟩ | h0
   all_goals
    go_wp2
    go_ret
    exact ⟨k, rfl, hk, hfin.out, rfl⟩
theorem dig_step (x k : Nat) (hk : k < 4) (hx : x < 4294967296) : (((x / 256 ^ k : Nat) : Int) % 256) = ((dig_ x k : Nat) : Int) /\ ((x / 256 ^ k : Nat) : Int) / 256 = ((x / 256 ^ (k+1) : Nat) : Int) /\ dig_ x k < 256 /\ x / 256 ^ k < 4294967296 := by
 refine ⟨by simp [dig_], ?_, Nat.mod_lt _ (by omega), Nat.lt_of_le_of_lt (Nat.div_le_self _ _) hx⟩
 rw [Nat.pow_succ, <- Nat.div_div_eq_div_mul]; omega
set_option maxHeartbeats 2000000 in
theorem digits_calls (w : World) (v : Value) (l : List Nat) (h : U32s w v l) (hl : l.length <= 500000000) :
 Calls Tryz.prog 157 #[v] w (Ret w fun w' v' => OwnD w' w.heap.size v' (digs (val l))) := by
 obtain ⟨A, cap, rfl, hcap, hcm, hlt, hc⟩ := h.form
 obtain ⟨n, hn⟩ : ∃ n, n = l.length := ⟨_, rfl⟩
 rw [<- hn] at hl hcap ⊢
 have HN := hide hn; have HA := hide hlt; clear hn h hlt
 go_enter Tryz.func157, Tryz.ntmps157
 go_wp2
 go_loopw [3, 4] (fun out i wr => ∃ k : Nat, k <= n /\ i = .int .i64 (k : Int) /\ OwnNums .i64 3 wr w.heap.size out (fours (l.take k)) /\ Later w wr) (fun _ i _ => (n - intOf i).toNat)
 case atStart => exact ⟨0, Nat.zero_le _, rfl, OwnNums.nil _ _ _ _, Later.refl w⟩
 case round =>
  obtain ⟨k, hk, rfl, hout, hb⟩ := hrel
  by_cases hkn : k < n
  ·obtain ⟨b, off, x, rfl, hx, hxl, hcell⟩ := limb_at (hc.later hb) HA.out (k := k) (by have := HN.out; omega)
   obtain ⟨wo, rfl⟩ : ∃ wo : World, wo = wr := ⟨_, rfl⟩
   have HO := hide hout; clear hout
   go_wp2
   go_loopw [3, 5, 6] (fun out y i wr => ∃ j : Nat, j <= 4 /\ i = .int .i64 (j : Int) /\ y = .int .u32 ((x / 256 ^ j : Nat) : Int) /\ OwnNums .i64 3 wr w.heap.size out (fours (l.take k) ++ (List.range j).map (dig_ x)) /\ Later w wr) (fun _ _ i _ => (4 - intOf i).toNat)
   case atStart => exact ⟨0, by omega, rfl, by simp, by simpa using HO.out, hb⟩
   case round =>
    obtain ⟨j, hj, rfl, rfl, hout, hb2⟩ := hrel
    by_cases hj4 : j < 4
    ·obtain ⟨h1, h2, h3, h4⟩ := dig_step x j hj4 hxl
     obtain ⟨y, hy⟩ : ∃ y, y = x / 256 ^ j := ⟨_, rfl⟩
     obtain ⟨d, hd⟩ : ∃ d, d = dig_ x j := ⟨_, rfl⟩
     rw [<- hy] at h1 h2 h4 ⊢
     rw [<- hd] at h1 h3
     have H1 := hide h1; have H2 := hide h2; have HD := hide hd; have HOUT := hide hout
     have hlen9 : (fours (l.take k) ++ (List.range j).map (dig_ x)).length + 1 <= 4000000000 := by rw [List.length_append, fours_len, List.length_take]; simp; omega
     clear h1 h2 hd hy hout
     go_wp2_with (at_builtin; rw [H1.out]; refine wpList_append_src rfl _ _ 23 rfl w.heap.size 3 (.int .i64 0) 1 8 Tryz.underlying23 info_int rfl (by omega) (by omega) _ _ _ rfl (HOUT.out.later ((Later.refl _).alloc _)) _ 1 (nums .i64 [d]) rfl (Src.row (Row.new _ _ _) rfl (nums_one _)) hlen9 (Nat.le_trans hb2.size (by simp)) ?_; intro v' w1 hown hg hblk)
     have hb3 : Later w w1 := Later.grew (Later.alloc hb2 _) (HOUT.out.later ((Later.refl _).alloc _)) hg
     have hown2 : OwnNums .i64 3 w1 w.heap.size v' (fours (l.take k) ++ (List.range (j+1)).map (dig_ x)) := by
      have e : fours (l.take k) ++ (List.range (j+1)).map (dig_ x) = (fours (l.take k) ++ (List.range j).map (dig_ x)) ++ [d] := by
       rw [List.range_succ, List.map_append, <- List.append_assoc, HD.out]; rfl
      rw [e]
      unfold OwnNums
      rw [nums_append, List.length_append]
      exact hown
     have HO2 := hide hown2
     clear hown hown2 hg hblk
     go_wp2
     go_roundw
     case rel => exact ⟨j+1, by omega, by go_num, by rw [<- H2.out], HO2.out, hb3⟩
     case measure => simp [intOf]; omega
    ·obtain rfl : j = 4 := by omega
     have hn2 : OwnNums .i64 3 wr w.heap.size u3 (fours (l.take (k+1))) := by
      have e : fours (l.take (k+1)) = fours (l.take k) ++ (List.range 4).map (dig_ x) := by
       rw [List.take_succ_eq_append_getElem (by have := HN.out; omega), fours_snoc, <- four_eq]
       have := hx.out
       rw [List.getElem?_eq_some_iff] at this
       obtain ⟨h1, h2⟩ := this
       rw [h2]
      rw [e]; exact hout
     have HO2 := hide hn2
     clear hn2 hout
     go_wp2
     go_roundw
     case rel => exact ⟨k+1, by omega, by go_num, HO2.out, hb2⟩
     case measure => simp [intOf]; omega
  ·obtain rfl : k = n := by omega
   rw [List.take_of_length_le (by have := HN.out; omega)] at hout
   obtain ⟨A1, c1, f1, hc1, hm1, hcc⟩ := hout.reads.form
   obtain ⟨m, hm⟩ : ∃ m, m = (fours l).length := ⟨_, rfl⟩
   rw [<- hm] at f1 hc1
   subst f1
   have HO := hide hout; have HM := hide hm
   have hm9 : m <= 4000000000 := by rw [hm, fours_len, <- HN.out]; omega
   clear hout hm hcc
   go_wp2_with fail
   refine (cut_calls _ _ _ _ (fours l) ⟨fours_all l, HO.out.reads⟩ (by rw [<- HM.out]; exact hm9)).mono ?_
   rintro e w1 ⟨j, rfl, hj, ht, rfl⟩
   have HT := hide ht
   clear ht
   go_wp2_with fail
   go_ret
   refine ⟨_, rfl, ?_, hb⟩
   have h1 := OwnD.take (k := j) ⟨fours_all l, HO.out⟩ hj
   rw [HT.out, dval_fours HA.out] at h1
   exact h1
end Go.Proofs.YtncbebfhakcgdaaGreat
namespace Go.Proofs.YtncbebfhakcgdaaGreat
open Go.RowKit
def partD (D : List Nat) (i : Nat) : Nat -> Nat
 | 0 => 0
 | k+1 => partD D i k * 256 + D.getD (i + 3 - k) 0
theorem partD_lt {D : List Nat} (h : AllD D) (i : Nat) : ∀ k, partD D i k < 256 ^ k := by
 intro k
 induction k with
 | zero => simp [partD]
 | succ k ih =>
   have := getD_ltD h (i + 3 - k)
   simp only [partD, Nat.pow_succ]
   omega
theorem partD_bound {D : List Nat} (h : AllD D) (i k : Nat) (hk : k <= 3) : partD D i k < 16777216 := by
 have := partD_lt h i k
 have h2 : 256 ^ k <= 256 ^ 3 := Nat.pow_le_pow_right (by omega) hk
 omega
theorem partD_four (D : List Nat) (i : Nat) : partD D i 4 = limb4 D i := by
 simp only [partD, limb4]
 rw [show i + 3 - 0 = i + 3 by omega, show i + 3 - 1 = i + 2 by omega, show i + 3 - 2 = i + 1 by omega, show i + 3 - 3 = i by omega]
 omega
set_option maxHeartbeats 2000000 in
theorem limbs_calls (w : World) (v : Value) (l : List Nat) (h : DigsAt w v l) (hl : l.length <= 2000000000) :
 Calls Tryz.prog 156 #[v] w (Ret w fun w' v' => Own32 160 w' w.heap.size v' (limbs (dval l))) := by
 obtain ⟨A, cap, rfl, hcap, hcm, hc⟩ := h.2.form
 have H := hide h
 obtain ⟨n0, hn0⟩ : ∃ n, n = l.length := ⟨_, rfl⟩
 rw [<- hn0] at hl hcap H ⊢
 have HN0 := hide hn0; clear hn0 h
 go_enter Tryz.func156, Tryz.ntmps156
 go_wp2_with fail
 refine (cut_calls _ _ _ _ l H.out (by rw [<- HN0.out]; omega)).mono ?_
 rintro e w1 ⟨n, rfl, hn, ht, rfl⟩
 obtain ⟨D, hD⟩ : ∃ D, D = l.take n := ⟨_, rfl⟩
 have hDl : n = D.length := by rw [hD, List.length_take, <- HN0.out]; omega
 have hDA : AllD D := by rw [hD]; exact H.out.1.take n
 rw [<- hD] at ht
 have hcD : Cells w A (nums .i64 D) := by
  rw [hD, nums_take]
  rcases hc with h0 | ⟨b, off, rfl, h0⟩
  ·exact .inl (by rw [h0]; simp)
  ·refine .inr ⟨b, off, rfl, fun j u hj => h0 j u ?_⟩
   rw [List.getElem?_take] at hj
   split at hj
   ·exact hj
   ·cases hj
 have HT := hide ht; have HDL := hide hDl; have HDA := hide hDA
 clear ht hDl hDA hD hc
 go_wp2_with fail
 go_loopw [3, 4] (fun out i wr => ∃ j p : Nat, p <= n + 3 /\ i = .int .i64 (p : Int) /\ Hid (p = 4 * j) /\ OwnNums .u32 160 wr w.heap.size out (limbs4 D j) /\ Later w wr) (fun _ i _ => (n + 4 - intOf i).toNat)
 case atStart => exact ⟨0, 0, by omega, rfl, hide rfl, OwnNums.nil _ _ _ _, Later.refl w⟩
 case round =>
  obtain ⟨j, p, hp, rfl, hpj, hout, hb⟩ := hrel
  by_cases hpn : p < n
  ·obtain ⟨wo, rfl⟩ : ∃ wo : World, wo = wr := ⟨_, rfl⟩
   have HOUT := hide hout; clear hout
   have hc2 := hcD.later hb
   go_wp2
   go_loop [5, 6] (fun x k => ∃ (z : Int) (y : Nat), -1 <= z /\ z <= 3 /\ k = .int .i64 z /\ x = .int .u32 (y : Int) /\ y < 4294967296 /\ Hid (y = partD D p (3 - z).toNat)) (fun _ k => (intOf k + 1).toNat)
   case atStart => exact ⟨3, 0, by omega, by omega, rfl, rfl, by omega, hide rfl⟩
   case round =>
    obtain ⟨z, y, hz1, hz2, rfl, rfl, hy, hyp⟩ := hrel
    by_cases hz : 0 <= z
    ·obtain ⟨r, rfl⟩ := Int.eq_ofNat_of_zero_le hz
     have hy2 : y < 16777216 := by rw [hyp.out]; exact partD_bound HDA.out _ _ (by omega)
     have e1 : (3 - ((r : Int) - 1)).toNat = (3 - (r : Int)).toNat + 1 := by omega
     have e2 : p + 3 - (3 - (r : Int)).toNat = p + r := by omega
     have E1 := hide e1; have E2 := hide e2
     clear e1 e2
     by_cases hin : p + r < n
     ·obtain ⟨b, off, d, rfl, hd, hcell⟩ := num_at hc2 (k := p + r) (by rw [<- HDL.out]; exact hin)
      have hd256 : d < 256 := HDA.out.at_ hd.out
      have hgd : D.getD (p + r) 0 = d := by rw [List.getD_eq_getElem?_getD, hd.out]; rfl
      have HGD := hide hgd
      have t1 : decide ((p : Int) + r < n) = true := by simp; omega
      clear hgd
      go_wp2
      go_round
      case rel =>
       refine ⟨(r : Int) - 1, y * 256 + d, by omega, by omega, rfl, by go_num, by omega, hide ?_⟩
       rw [E1.out, partD, E2.out, HGD.out, <- hyp.out]
      case measure => simp [intOf]
     ·have hgd : D.getD (p + r) 0 = 0 := by rw [List.getD_eq_getElem?_getD, List.getElem?_eq_none (by rw [<- HDL.out]; omega)]; rfl
      have HGD := hide hgd
      have t1 : decide ((p : Int) + r < n) = false := by simp; omega
      clear hgd
      go_wp2
      go_round
      case rel =>
       refine ⟨(r : Int) - 1, y * 256, by omega, by omega, rfl, by go_num, by omega, hide ?_⟩
       rw [E1.out, partD, E2.out, HGD.out, <- hyp.out]; rfl
      case measure => simp [intOf]
    ·have hz3 : z = -1 := by omega
     subst hz3
     have hyl : y = limb4 D (4 * j) := by rw [hyp.out, <- hpj.out, <- partD_four]; rfl
     have HYL := hide hyl
     have hlen9 : (limbs4 D j).length + 1 <= 4000000000 := by rw [limbs4_len]; have := hpj.out; omega
     clear hyl
     go_wp2_with (at_builtin; refine wpList_append_src rfl _ _ 63 rfl w.heap.size 160 (.int .u32 0) 1 4 Tryz.underlying63 info_u32 rfl (by omega) (by omega) _ _ _ rfl (HOUT.out.later ((Later.refl _).alloc _)) _ 1 (nums .u32 [y]) rfl (Src.row (Row.new _ _ _) rfl (nums_one _)) hlen9 (Nat.le_trans hb.size (by simp)) ?_; intro v' w1 hown hg hblk)
     have hb3 : Later w w1 := Later.grew (Later.alloc hb _) (HOUT.out.later ((Later.refl _).alloc _)) hg
     have hown2 : OwnNums .u32 160 w1 w.heap.size v' (limbs4 D (j+1)) := by
      rw [limbs4_succ, <- HYL.out]
      unfold OwnNums
      rw [nums_append, List.length_append]
      exact hown
     have HO2 := hide hown2
     clear hown hown2 hg hblk
     go_wp2
     go_roundw
     case rel => exact ⟨j+1, p+4, by omega, by go_num, hide (by rw [hpj.out]; omega), HO2.out, hb3⟩
     case measure => simp [intOf]; omega
  ·have hfin : limbs4 D j = limbs (dval l) := by
    have e : D = digs (dval l) := HT.out
    have h1 := HDL.out; have h2 := hpj.out
    rw [e] at h1
    rw [e]
    exact limbs4_done _ _ (by omega) (by omega)
   have HO := hide hout
   have HF := hide hfin
   clear hout hfin
   go_wp2_with fail
   go_ret
   exact ⟨_, rfl, ⟨limbs_lt _, by rw [<- HF.out]; exact HO.out⟩, hb⟩
theorem own_len {T : TypeId} {w : World} {B : Nat} {v : Value} {l : List Nat} {q : IntKind} (h : OwnNums q T w B v l) : ∃ A c, v = .slice A l.length c := by
 obtain ⟨A, c, e, -⟩ := h.reads.form; exact ⟨A, c, e⟩
theorem digs_len {n k : Nat} (h : n < 4294967296 ^ k) : (digs n).length <= 4 * k := by
 refine length_digs_le ?_
 rw [Nat.pow_mul]; exact h
theorem digs_val_len {l : List Nat} (h : AllLt l) : (digs (val l)).length <= 4 * l.length := digs_len (val_lt h)
set_option maxHeartbeats 1000000 in
theorem rtrim_calls (w : World) (v : Value) (l : List Nat) (h : U32s w v l) (hl : l.length <= 500000000) :
 Calls Tryz.prog 137 #[v] w (Ret w fun w' v' => Own32 160 w' w.heap.size v' (limbs (val l))) := by
 have H := hide h
 have hdl := digs_val_len h.1
 clear h
 go_enter Tryz.func137, Tryz.ntmps137
 go_wp2_with fail
 refine (digits_calls _ _ l H.out hl).mono ?_
 rintro e w1 ⟨v1, rfl, o1, b1⟩
 have O1 := hide o1; clear o1
 go_wp2_with fail
 refine (limbs_calls _ _ _ O1.out.reads (by omega)).mono ?_
 rintro e w2 ⟨v2, rfl, o2, b2⟩
 rw [dval_digs] at o2
 have O2 := hide o2; clear o2
 go_wp2_with fail
 go_ret
 exact ⟨_, rfl, O2.out.weaken b1.size, b1.trans b2⟩
end Go.Proofs.YtncbebfhakcgdaaGreat
namespace Go.Proofs.YtncbebfhakcgdaaGreat
open Go.RowKit
theorem dval_drop_getD (l : List Nat) (k : Nat) : dval (l.drop k) = l.getD k 0 + 256 * dval (l.drop (k+1)) := by
 by_cases h : k < l.length
 ·rw [List.drop_eq_getElem_cons h, dval_cons, List.getD_eq_getElem?_getD, List.getElem?_eq_getElem h]; rfl
 ·rw [List.drop_eq_nil_of_le (by omega), List.drop_eq_nil_of_le (by omega), List.getD_eq_getElem?_getD, List.getElem?_eq_none (by omega)]; rfl
set_option maxHeartbeats 1000000 in
theorem dcmp_calls (w : World) (va vb : Value) (a b : List Nat) (ha : DigsAt w va a) (hb : DigsAt w vb b) (hla : a.length <= 1000000000) (hlb : b.length <= 1000000000) (c : Int) (hc : cmpN (dval a) (dval b) = c) :
 Calls Tryz.prog 173 #[va, vb] w fun e w' => e = .returned (.int .i64 c) /\ w = w' := by
 have HA := hide ha; have HB := hide hb; have HC := hide hc
 obtain ⟨A, ca, rfl, -⟩ := ha.2.form
 obtain ⟨A', cb, rfl, -⟩ := hb.2.form
 clear ha hb hc
 obtain ⟨na, hna⟩ : ∃ n, n = a.length := ⟨_, rfl⟩
 obtain ⟨nb, hnb⟩ : ∃ n, n = b.length := ⟨_, rfl⟩
 rw [<- hna] at hla HA ⊢; rw [<- hnb] at hlb HB ⊢
 have HNA := hide hna; have HNB := hide hnb
 clear hna hnb
 go_enter Tryz.func173, Tryz.ntmps173
 go_wp2
 go_loop [5] (fun i => ∃ z : Int, -1 <= z /\ z <= na + nb /\ i = .int .i64 z /\ Hid (dval (a.drop (z+1).toNat) = dval (b.drop (z+1).toNat))) (fun i => (intOf i + 1).toNat)
 case atStart => exact ⟨na + nb, by omega, by omega, rfl, hide (by rw [List.drop_eq_nil_of_le (by rw [<- HNA.out]; omega), List.drop_eq_nil_of_le (by rw [<- HNB.out]; omega)])⟩
 case round =>
  obtain ⟨z, hz1, hz2, rfl, hz⟩ := hrel
  by_cases h0 : 0 <= z
  ·obtain ⟨r, rfl⟩ := Int.eq_ofNat_of_zero_le h0
   obtain ⟨x, hx⟩ : ∃ x, a.getD r 0 = x := ⟨_, rfl⟩
   obtain ⟨y, hy⟩ : ∃ x, b.getD r 0 = x := ⟨_, rfl⟩
   have hz' : dval (a.drop (r+1)) = dval (b.drop (r+1)) := hz.out
   have HX := hide hx; have HY := hide hy; have HZ := hide hz'
   clear hx hy hz hz'
   rcases Nat.lt_trichotomy x y with hlt | heq | hgt
   ·have hfin : c = -1 := by rw [<- HC.out, cmpN_lt (cmp_lt HA.out.1 HB.out.1 (by rw [HX.out, HY.out]; exact hlt) HZ.out)]
    have HF := hide hfin; clear hfin
    have t1 : decide ((x : Int) < y) = true := by simp; omega
    go_wp2_with (first
     | ((with_reducible refine (at_calls _ _ a HA.out r x (by omega) HX.out).mono ?_); rintro e w' ⟨rfl, rfl⟩)
     | ((with_reducible refine (at_calls _ _ b HB.out r y (by omega) HY.out).mono ?_); rintro e w' ⟨rfl, rfl⟩))
    go_ret
    exact ⟨by rw [HF.out]; rfl, rfl⟩
   ·subst heq
    have t1 : decide ((x : Int) < x) = false := by simp
    go_wp2_with (first
     | ((with_reducible refine (at_calls _ _ a HA.out r x (by omega) HX.out).mono ?_); rintro e w' ⟨rfl, rfl⟩)
     | ((with_reducible refine (at_calls _ _ b HB.out r x (by omega) HY.out).mono ?_); rintro e w' ⟨rfl, rfl⟩))
    go_round
    case rel =>
     refine ⟨(r : Int) - 1, by omega, by omega, rfl, hide ?_⟩
     rw [show ((r : Int) - 1 + 1).toNat = r by omega, dval_drop_getD a r, dval_drop_getD b r, HX.out, HY.out, HZ.out]
    case measure => simp [intOf]
   ·have hfin : c = 1 := by rw [<- HC.out, cmpN_gt (cmp_lt HB.out.1 HA.out.1 (by rw [HX.out, HY.out]; exact hgt) HZ.out.symm)]
    have HF := hide hfin; clear hfin
    have t1 : decide ((x : Int) < y) = false := by simp; omega
    have t2 : decide ((y : Int) < x) = true := by simp; omega
    go_wp2_with (first
     | ((with_reducible refine (at_calls _ _ a HA.out r x (by omega) HX.out).mono ?_); rintro e w' ⟨rfl, rfl⟩)
     | ((with_reducible refine (at_calls _ _ b HB.out r y (by omega) HY.out).mono ?_); rintro e w' ⟨rfl, rfl⟩))
    go_ret
    exact ⟨by rw [HF.out]; rfl, rfl⟩
  ·have hz3 : z = -1 := by omega
   subst hz3
   have hfin : c = 0 := by rw [<- HC.out]; exact cmpN_eq (by have := hz.out; simpa using this)
   have HF := hide hfin; clear hfin
   go_wp2
   go_ret
   exact ⟨by rw [HF.out]; rfl, rfl⟩
set_option maxHeartbeats 2000000 in
theorem dadd_calls (w : World) (va vb : Value) (a b : List Nat) (ha : DigsAt w va a) (hb : DigsAt w vb b) (hla : a.length <= 1000000000) (hlb : b.length <= 1000000000) :
 Calls Tryz.prog 160 #[va, vb] w (Ret w fun w' v' => OwnD w' w.heap.size v' (digs (dval a + dval b))) := by
 have HA := hide ha; have HB := hide hb
 obtain ⟨A, ca, rfl, -⟩ := ha.2.form
 obtain ⟨A', cb, rfl, -⟩ := hb.2.form
 clear ha hb
 obtain ⟨na, hna⟩ : ∃ n, n = a.length := ⟨_, rfl⟩
 obtain ⟨nb, hnb⟩ : ∃ n, n = b.length := ⟨_, rfl⟩
 rw [<- hna] at hla HA ⊢; rw [<- hnb] at hlb HB ⊢
 have HNA := hide hna; have HNB := hide hnb
 clear hna hnb
 go_enter Tryz.func160, Tryz.ntmps160
 go_wp2
 go_loopw [5, 6, 7] (fun out c i wr => ∃ (k cc : Nat) (o : List Nat), (k <= na + 1 ∨ k <= nb + 1) /\ cc <= 1 /\ i = .int .i64 (k : Int) /\ c = .int .i64 (cc : Int) /\ Hid (o.length = k /\ AllD o /\ dval o + 256 ^ k * cc = dval (a.take k) + dval (b.take k)) /\ OwnNums .i64 3 wr w.heap.size out o /\ Later w wr) (fun _ _ i _ => (na + nb + 2 - intOf i).toNat)
 case atStart => exact ⟨0, 0, [], by omega, by omega, rfl, rfl, hide ⟨rfl, AllD.nil, by simp⟩, OwnNums.nil _ _ _ _, Later.refl w⟩
 case round =>
  obtain ⟨k, cc, o, hk, hcc, rfl, rfl, ho, hout, hb⟩ := hrel
  have hk2 : k <= na + nb + 1 := by omega
  by_cases hgo : k <= na ∨ k <= nb
  ·have hk3 : k + 1 <= na + 1 ∨ k + 1 <= nb + 1 := by omega
   clear hk
   obtain ⟨x, hx⟩ : ∃ x, a.getD k 0 = x := ⟨_, rfl⟩
   obtain ⟨y, hy⟩ : ∃ x, b.getD k 0 = x := ⟨_, rfl⟩
   have hxl : x < 256 := hx ▸ getD_ltD HA.out.1 k
   have hyl : y < 256 := hy ▸ getD_ltD HB.out.1 k
   have HX := hide hx; have HY := hide hy; have HOUT := hide hout
   clear hx hy hout
   have hlen9 : o.length + 1 <= 4000000000 := by rw [ho.out.1]; omega
   have H1 : Hid (((x : Int) + y + cc) % 256 = (((cc + x + y) % 256 : Nat) : Int)) := hide (by omega)
   have hcase : k <= na ∨ (¬ k <= na /\ k <= nb) := by omega
   have HK3 := hide hk3
   clear hgo hk3
   rcases hcase with hc1 | ⟨hc1, hc2⟩
   all_goals
    go_wp2_with (first
     | ((with_reducible refine (at_calls _ _ a (HA.out.later hb) k x (by omega) HX.out).mono ?_); rintro e w' ⟨rfl, rfl⟩)
     | ((with_reducible refine (at_calls _ _ b (HB.out.later hb) k y (by omega) HY.out).mono ?_); rintro e w' ⟨rfl, rfl⟩)
     | (at_builtin; rw [H1.out]; refine wpList_append_src rfl _ _ 23 rfl w.heap.size 3 (.int .i64 0) 1 8 Tryz.underlying23 info_int rfl (by omega) (by omega) _ _ _ rfl (HOUT.out.later ((Later.refl _).alloc _)) _ 1 (nums .i64 [(cc + x + y) % 256]) rfl (Src.row (Row.new _ _ _) rfl (nums_one _)) hlen9 (Nat.le_trans hb.size (by simp)) ?_; intro v' w1 hown hg hblk))
    have hb3 : Later w w1 := Later.grew (Later.alloc hb _) (HOUT.out.later ((Later.refl _).alloc _)) hg
    have hown2 : OwnNums .i64 3 w1 w.heap.size v' (o ++ [(cc + x + y) % 256]) := by
     unfold OwnNums
     rw [nums_append, List.length_append]
     exact hown
    have HO2 := hide hown2
    clear hown hown2 hg hblk
    go_wp2
    go_roundw
    case rel =>
     refine ⟨k+1, (cc + x + y) / 256, _, HK3.out, by omega, by go_num, by go_num, hide ⟨by simp [ho.out.1], ho.out.2.1.append (AllD.cons (Nat.mod_lt _ (by omega)) AllD.nil), ?_⟩, HO2.out, hb3⟩
     rw [dval_append, ho.out.1, dval_take_succ, dval_take_succ, HX.out, HY.out, Nat.pow_succ]
     have := carry_stepD (256 ^ k) (cc + x + y) (dval o) _ x y cc ho.out.2.2 rfl
     simp only [dval_cons, dval_nil, Nat.mul_zero, Nat.add_zero]
     omega
    case measure => simp [intOf]; omega
  ·have hsum : dval o = dval a + dval b := by
    obtain ⟨h1, h2, h3⟩ := ho.out
    exact add_doneD HA.out.1 HB.out.1 (by have := HNA.out; omega) (by have := HNB.out; omega) hcc h1 h3
   have HS := hide hsum
   obtain ⟨A1, c1, f1, hc1, hm1, -⟩ := hout.reads.form
   obtain ⟨m, hm⟩ : ∃ m, m = o.length := ⟨_, rfl⟩
   rw [<- hm] at f1 hc1
   subst f1
   have HO := hide hout; have HM := hide hm
   have hm9 : m <= 4000000000 := by rw [hm, ho.out.1]; omega
   have hc1 : ¬ k <= na := by omega
   have hc2 : ¬ k <= nb := by omega
   clear hout hm hsum hgo hk
   go_wp2_with fail
   refine (cut_calls _ _ _ _ o ⟨ho.out.2.1, HO.out.reads⟩ (by rw [<- HM.out]; exact hm9)).mono ?_
   rintro e w1 ⟨j, rfl, hj, ht, rfl⟩
   have HT := hide ht
   clear ht
   go_wp2_with fail
   go_ret
   refine ⟨_, rfl, ?_, hb⟩
   have h1 := OwnD.take (k := j) ⟨ho.out.2.1, HO.out⟩ hj
   rw [HT.out, HS.out] at h1
   exact h1
end Go.Proofs.YtncbebfhakcgdaaGreat
namespace Go.Proofs.YtncbebfhakcgdaaGreat
open Go.RowKit
attribute [local go_sem ↓] Go.wp_at_zero Go.wp_at_succ
theorem digs_add_len {a b k : Nat} (ha : (digs a).length <= k) (hb : (digs b).length <= k) : (digs (a + b)).length <= k + 1 := by
 refine length_digs_le ?_
 have h1 := Nat.lt_of_lt_of_le (lt_of_length_digs a) (Nat.pow_le_pow_right (by omega) ha)
 have h2 := Nat.lt_of_lt_of_le (lt_of_length_digs b) (Nat.pow_le_pow_right (by omega) hb)
 rw [Nat.pow_succ]; omega
theorem digs_mul_len {a b k m : Nat} (ha : (digs a).length <= k) (hb : (digs b).length <= m) : (digs (a * b)).length <= k + m := by
 refine length_digs_le ?_
 rw [Nat.pow_add]
 have h1 := Nat.lt_of_lt_of_le (lt_of_length_digs a) (Nat.pow_le_pow_right (by omega) ha)
 have h2 := Nat.lt_of_lt_of_le (lt_of_length_digs b) (Nat.pow_le_pow_right (by omega) hb)
 exact Nat.mul_lt_mul'' h1 h2
set_option maxHeartbeats 1000000 in
theorem rnadd_calls (w : World) (va vb : Value) (a b : List Nat) (ha : U32s w va a) (hb : U32s w vb b) (hla : a.length <= 200000000) (hlb : b.length <= 200000000) :
 Calls Tryz.prog 140 #[va, vb] w (Ret w fun w' v' => Own32 160 w' w.heap.size v' (limbs (val a + val b))) := by
 have HA := hide ha; have HB := hide hb
 have h1 := digs_val_len ha.1; have h2 := digs_val_len hb.1
 have h3 := digs_add_len (k := 800000000) (Nat.le_trans h1 (by omega)) (Nat.le_trans h2 (by omega))
 clear ha hb
 go_enter Tryz.func140, Tryz.ntmps140
 go_wp2_with fail
 refine (digits_calls _ _ a HA.out (by omega)).mono ?_
 rintro e w1 ⟨v1, rfl, o1, b1⟩
 have O1 := hide o1; clear o1
 go_wp2_with fail
 refine (digits_calls _ _ b (HB.out.later b1) (by omega)).mono ?_
 rintro e w2 ⟨v2, rfl, o2, b2⟩
 have O2 := hide o2; clear o2
 go_wp2_with fail
 refine (dadd_calls _ _ _ _ _ (O1.out.reads.later b2) O2.out.reads (by omega) (by omega)).mono ?_
 rintro e w3 ⟨v3, rfl, o3, b3⟩
 rw [dval_digs, dval_digs] at o3
 have O3 := hide o3; clear o3
 go_wp2_with fail
 refine (limbs_calls _ _ _ O3.out.reads (by omega)).mono ?_
 rintro e w4 ⟨v4, rfl, o4, b4⟩
 rw [dval_digs] at o4
 have O4 := hide o4; clear o4
 have hL := (b1.trans b2).trans b3
 go_wp2_with fail
 go_ret
 exact ⟨_, rfl, O4.out.weaken hL.size, hL.trans b4⟩
theorem sub_digit {x y c : Nat} (hx : x < 256) (hy : y < 256) (hc : c <= 1) :
 (x < y + c -> (x : Int) - y - c < 0 /\ (x : Int) - y - c + 256 = (((x + 256 - y - c) % 256 : Nat) : Int)) /\ (¬ x < y + c -> 0 <= (x : Int) - y - c /\ (x : Int) - y - c = (((x + 256 - y - c) % 256 : Nat) : Int)) := by
 constructor <;> intro h <;> constructor <;> omega
set_option maxHeartbeats 2000000 in
theorem dsub_calls (w : World) (va vb : Value) (a b : List Nat) (ha : DigsAt w va a) (hb : DigsAt w vb b) (hla : a.length <= 1000000000) (hlb : b.length <= 1000000000) (hle : dval b <= dval a) :
 Calls Tryz.prog 175 #[va, vb] w (Ret w fun w' v' => OwnD w' w.heap.size v' (digs (dval a - dval b))) := by
 have HA := hide ha; have HB := hide hb; have HLE := hide hle
 obtain ⟨A, ca, rfl, hca, hcm, hcA⟩ := ha.2.form
 obtain ⟨A', cb, rfl, -⟩ := hb.2.form
 clear ha hb hle
 obtain ⟨na, hna⟩ : ∃ n, n = a.length := ⟨_, rfl⟩
 obtain ⟨nb, hnb⟩ : ∃ n, n = b.length := ⟨_, rfl⟩
 rw [<- hna] at hla hca HA ⊢; rw [<- hnb] at hlb HB ⊢
 have HNA := hide hna; have HNB := hide hnb
 clear hna hnb
 go_enter Tryz.func175, Tryz.ntmps175
 go_wp2
 go_loopw [5, 6, 7] (fun out c i wr => ∃ (k cc : Nat) (o : List Nat), k <= na /\ cc <= 1 /\ i = .int .i64 (k : Int) /\ c = .int .i64 (cc : Int) /\ Hid (o.length = k /\ AllD o /\ dval o + dval (b.take k) = dval (a.take k) + 256 ^ k * cc) /\ OwnNums .i64 3 wr w.heap.size out o /\ Later w wr) (fun _ _ i _ => (na - intOf i).toNat)
 case atStart => exact ⟨0, 0, [], by omega, by omega, rfl, rfl, hide ⟨rfl, AllD.nil, by simp⟩, OwnNums.nil _ _ _ _, Later.refl w⟩
 case round =>
  obtain ⟨k, cc, o, hk, hcc, rfl, rfl, ho, hout, hb⟩ := hrel
  by_cases hkn : k < na
  ·obtain ⟨b', off, x, rfl, hx, hcell⟩ := num_at (hcA.later hb) (k := k) (by rw [<- HNA.out]; exact hkn)
   have hxl : x < 256 := HA.out.1.at_ hx.out
   have HXD : Hid (a.getD k 0 = x) := hide (by rw [List.getD_eq_getElem?_getD, hx.out]; rfl)
   obtain ⟨y, hy⟩ : ∃ x, b.getD k 0 = x := ⟨_, rfl⟩
   have hyl : y < 256 := hy ▸ getD_ltD HB.out.1 k
   have HY := hide hy; have HOUT := hide hout
   clear hy hout
   have hlen9 : o.length + 1 <= 4000000000 := by rw [ho.out.1]; omega
   have HC : Hid (wr.drew.cell? ⟨b', off + k, none⟩ = some (.int .i64 (x : Int))) := hide hcell
   have hbd : Later w wr.drew := hb.drew
   have hk64 : (0 : Int) <= (k : Int) := by omega
   have hk65 : (k : Int) < na := by omega
   go_upto_region 6 with fail
   rename_i K2 hK2
   go_region_held3 (fun w' => w'.cell? ⟨b', off + k, none⟩ = some (.int .i64 (x : Int)))
    (first | exact HC.out)
    (first
     | ((with_reducible refine (at_calls _ _ b (HB.out.later hbd) k y (by omega) HY.out).mono ?_); rintro e w' ⟨rfl, rfl⟩))
   show K2 _ _
   refine hK2 _ _ ?_
   have hd := sub_digit hxl hyl hcc
   by_cases hlt : x < y + cc
   ·obtain ⟨h1, h2⟩ := hd.1 hlt
    have t1 : decide ((x : Int) - y - cc < 0) = true := by simpa using h1
    have H2 := hide h2
    clear hd h2
    go_wp2_with (at_builtin; rw [H2.out]; refine wpList_append_src rfl _ _ 23 rfl w.heap.size 3 (.int .i64 0) 1 8 Tryz.underlying23 info_int rfl (by omega) (by omega) _ _ _ rfl (HOUT.out.later ((Later.refl _).drew.alloc _)) _ 1 (nums .i64 [(x + 256 - y - cc) % 256]) rfl (Src.row (Row.new _ _ _) rfl (nums_one _)) hlen9 (Nat.le_trans hb.size (by simp)) ?_; intro v' w1 hown hg hblk)
    have hb3 : Later w w1 := Later.grew (Later.alloc hbd _) (HOUT.out.later ((Later.refl _).drew.alloc _)) hg
    have hown2 : OwnNums .i64 3 w1 w.heap.size v' (o ++ [(x + 256 - y - cc) % 256]) := by
     unfold OwnNums
     rw [nums_append, List.length_append]
     exact hown
    have HO2 := hide hown2
    clear hown hown2 hg hblk
    go_wp2
    go_roundw
    case rel =>
     refine ⟨k+1, 1, _, by omega, by omega, by go_num, rfl, hide ⟨by simp [ho.out.1], ho.out.2.1.append (AllD.cons (Nat.mod_lt _ (by omega)) AllD.nil), ?_⟩, HO2.out, hb3⟩
     rw [dval_append, ho.out.1, dval_take_succ, dval_take_succ, HXD.out, HY.out, Nat.pow_succ]
     have := borrow_stepD (256 ^ k) _ (dval o) _ x y cc ho.out.2.2 hxl hyl hcc
     rw [if_pos hlt] at this
     simp only [dval_cons, dval_nil, Nat.mul_zero, Nat.add_zero]
     omega
    case measure => simp [intOf]; omega
   ·obtain ⟨h1, h2⟩ := hd.2 hlt
    have t1 : decide ((x : Int) - y - cc < 0) = false := by simp; omega
    have H2 := hide h2
    clear hd h2
    go_wp2_with (at_builtin; rw [H2.out]; refine wpList_append_src rfl _ _ 23 rfl w.heap.size 3 (.int .i64 0) 1 8 Tryz.underlying23 info_int rfl (by omega) (by omega) _ _ _ rfl (HOUT.out.later ((Later.refl _).drew.alloc _)) _ 1 (nums .i64 [(x + 256 - y - cc) % 256]) rfl (Src.row (Row.new _ _ _) rfl (nums_one _)) hlen9 (Nat.le_trans hb.size (by simp)) ?_; intro v' w1 hown hg hblk)
    have hb3 : Later w w1 := Later.grew (Later.alloc hbd _) (HOUT.out.later ((Later.refl _).drew.alloc _)) hg
    have hown2 : OwnNums .i64 3 w1 w.heap.size v' (o ++ [(x + 256 - y - cc) % 256]) := by
     unfold OwnNums
     rw [nums_append, List.length_append]
     exact hown
    have HO2 := hide hown2
    clear hown hown2 hg hblk
    go_wp2
    go_roundw
    case rel =>
     refine ⟨k+1, 0, _, by omega, by omega, by go_num, rfl, hide ⟨by simp [ho.out.1], ho.out.2.1.append (AllD.cons (Nat.mod_lt _ (by omega)) AllD.nil), ?_⟩, HO2.out, hb3⟩
     rw [dval_append, ho.out.1, dval_take_succ, dval_take_succ, HXD.out, HY.out, Nat.pow_succ]
     have := borrow_stepD (256 ^ k) _ (dval o) _ x y cc ho.out.2.2 hxl hyl hcc
     rw [if_neg hlt] at this
     simp only [dval_cons, dval_nil, Nat.mul_zero, Nat.add_zero]
     omega
    case measure => simp [intOf]; omega
  ·obtain rfl : k = na := by omega
   have hsum : dval o = dval a - dval b := by
    obtain ⟨h1, h2, h3⟩ := ho.out
    exact sub_doneD h1 HNA.out HLE.out take_of_ltD h2 HA.out.1 (by rw [List.take_of_length_le (l := o) (by omega)]; exact h3)
   have HS := hide hsum
   obtain ⟨A1, c1, f1, hc1, hm1, -⟩ := hout.reads.form
   obtain ⟨m, hm⟩ : ∃ m, m = o.length := ⟨_, rfl⟩
   rw [<- hm] at f1 hc1
   subst f1
   have HO := hide hout; have HM := hide hm
   have hm9 : m <= 4000000000 := by rw [hm, ho.out.1]; omega
   clear hout hm hsum
   go_wp2_with fail
   refine (cut_calls _ _ _ _ o ⟨ho.out.2.1, HO.out.reads⟩ (by rw [<- HM.out]; exact hm9)).mono ?_
   rintro e w1 ⟨j, rfl, hj, ht, rfl⟩
   have HT := hide ht
   clear ht
   go_wp2_with fail
   go_ret
   refine ⟨_, rfl, ?_, hb⟩
   have h1 := OwnD.take (k := j) ⟨ho.out.2.1, HO.out⟩ hj
   rw [HT.out, HS.out] at h1
   exact h1
end Go.Proofs.YtncbebfhakcgdaaGreat
namespace Go.Proofs.YtncbebfhakcgdaaGreat
open Go.RowKit
attribute [local go_sem ↓] Go.wp_at_zero Go.wp_at_succ
theorem wrap_small {z : Int} (h1 : -9223372036854775808 <= z) (h2 : z < 9223372036854775808) : IntKind.i64.wrap z = z := by simp [IntKind.wrap, IntKind.bits, IntKind.signed]; omega
theorem mul_small {x y p : Nat} (hx : x < 256) (hy : y < 256) (hp : p = x * y) : p <= 65025 /\ IntKind.i64.wrap ((x : Int) * (y : Int)) = p := by
 have h1 : x * y <= 255 * 255 := Nat.mul_le_mul (by omega) (by omega)
 refine ⟨by omega, ?_⟩
 rw [show (x : Int) * (y : Int) = ((p : Nat) : Int) by rw [hp]; simp]
 exact wrap_small (by omega) (by omega)
set_option maxHeartbeats 4000000 in
theorem dmul_calls (w : World) (va vb : Value) (a b : List Nat) (ha : DigsAt w va a) (hb : DigsAt w vb b) (hla : a.length <= 1000000000) (hlb : b.length <= 1000000000) :
 Calls Tryz.prog 161 #[va, vb] w (Ret w fun w' v' => OwnD w' w.heap.size v' (digs (dval a * dval b))) := by
 have HA := hide ha; have HB := hide hb
 obtain ⟨A, ca, rfl, hca, hcm, hcA⟩ := ha.2.form
 obtain ⟨A', cb, rfl, -⟩ := hb.2.form
 clear ha hb
 obtain ⟨na, hna⟩ : ∃ n, n = a.length := ⟨_, rfl⟩
 obtain ⟨nb, hnb⟩ : ∃ n, n = b.length := ⟨_, rfl⟩
 rw [<- hna] at hla hca HA ⊢; rw [<- hnb] at hlb HB ⊢
 have HNA := hide hna; have HNB := hide hnb
 clear hna hnb
 go_enter Tryz.func161, Tryz.ntmps161
 go_wp2_with (at_make; refine wpList_make_row rfl (.tmp 15) (.tmp 15) _ rfl 3 (.int .i64 0) 8 Tryz.underlying23 info_int rfl _ _ _ _ (na+nb+1) rfl rfl (by omega) (by omega) (by omega) (by unfold maxLen; omega) ?_; intro g w1 hg1 hr1 hb1)
 rw [<- nums_replicate] at hr1
 go_loopw [6] (fun i wr => ∃ (i' : Nat) (o : List Nat), i' <= na /\ i = .int .i64 (i' : Int) /\ Hid (MulD a b o i') /\ Row wr g 3 (nums .i64 o) /\ Later w wr) (fun i _ => (na - intOf i).toNat)
 case atStart => exact ⟨0, _, by omega, rfl, hide (by rw [HNA.out, HNB.out]; exact MulD.start a b), hr1, hb1⟩
 case round =>
  obtain ⟨i, o0, hi, rfl, ho0, hr, hb⟩ := hrel
  by_cases hin : i < na
  ·obtain ⟨b', off, x, rfl, hx, -⟩ := num_at (hcA.later hb) (k := i) (by rw [<- HNA.out]; exact hin)
   have hxl : x < 256 := HA.out.1.at_ hx.out
   obtain ⟨wo, rfl⟩ : ∃ wo : World, wo = wr := ⟨_, rfl⟩
   go_wp2
   go_loopw [7, 8] (fun c k wr => ∃ (k' cc : Nat) (o : List Nat), k' <= nb + 1 /\ cc <= 255 /\ k = .int .i64 (k' : Int) /\ c = .int .i64 (cc : Int) /\ Hid (RowD o0 o b i k' x cc) /\ Row wr g 3 (nums .i64 o) /\ Later w wr) (fun _ k _ => (nb + 2 - intOf k).toNat)
   case atStart => exact ⟨0, 0, o0, by omega, by omega, rfl, rfl, hide (RowD.start ho0.out.lt), hr, hb⟩
   case round =>
    obtain ⟨k, cc, o, hk, hcc, rfl, rfl, ho, hr2, hb2⟩ := hrel
    by_cases hgo : k < nb ∨ 0 < cc
    ·have hkb : k <= nb := by
      rcases hgo with h | h
      ·omega
      ·by_cases hkn : k < nb
       ·omega
       ·have := MulD.bound HA.out.1 HB.out.1 ho0.out (by rw [<- HNA.out]; exact hin) hx.out ho.out (by rw [<- HNB.out]; omega) h
        rw [<- HNB.out] at this; exact this
     have hlen : i + k < o.length := by
      rw [ho.out.len, ho0.out.len, <- HNA.out, <- HNB.out]; omega
     obtain ⟨b1, off1, x1, e1, hx1, hcell⟩ := num_at (hcA.later hb2) (k := i) (by rw [<- HNA.out]; exact hin)
     obtain rfl : x1 = x := by have h1 := hx1.out; rw [hx.out] at h1; injection h1 with h1; exact h1.symm
     injection e1 with e1; injection e1 with e1 e2
     subst e1 e2
     obtain ⟨z, hz, hzc, hzf⟩ := row_cell hr2 hlen
     have hzl : z < 256 := ho.out.lt.at_ hz.out
     obtain ⟨y, hy⟩ : ∃ y, b.getD k 0 = y := ⟨_, rfl⟩
     have hyl : y < 256 := hy ▸ getD_ltD HB.out.1 k
     obtain ⟨p, hp⟩ : ∃ p, p = x1 * y := ⟨_, rfl⟩
     obtain ⟨hp1, hp2⟩ := mul_small hxl hyl hp
     have HY := hide hy; have HP := hide hp
     clear hy hp
     obtain ⟨no, hno⟩ : ∃ n, n = o.length := ⟨_, rfl⟩
     have hno2 : no = na + nb + 1 := by rw [hno, ho.out.len, ho0.out.len, <- HNA.out, <- HNB.out]
     have HNO := hide hno
     have hgl := hr2.lt
     have HLEN := hide hlen
     clear hno hlen
     have HC1 : Hid (wr.drew.cell? ⟨b', off + i, none⟩ = some (.int .i64 (x1 : Int)) /\ wr.drew.cell? ⟨g, i + k, none⟩ = some (.int .i64 (z : Int))) := hide ⟨hcell, hzc⟩
     have hbd : Later w wr.drew := hb2.drew
     have hi0 : (0 : Int) <= (i : Int) + k := by omega
     have hi1 : (i : Int) + k < na + nb + 1 := by omega
     have hi2 : (0 : Int) <= (i : Int) := by omega
     have hi3 : (i : Int) < na := by omega
     have hwik : IntKind.i64.wrap ((i : Int) + k) = (i : Int) + k := wrap_small (by omega) (by omega)
     have htn : ((i : Int) + k).toNat = i + k := by omega
     have t1 : (decide (k < nb) = true) ∨ (decide (k < nb) = false /\ decide (0 < cc) = true) := by
      by_cases h : k < nb
      ·exact .inl (by simpa using h)
      ·exact .inr ⟨by simpa using h, by have : 0 < cc := by omega
                                        simpa using this⟩
     have HT := hide htn; have HW := hide hwik
     clear hgo htn hwik hno2
     rcases t1 with t1 | ⟨t1, t2⟩
     all_goals
      go_upto_region 9 with fail
      rename_i K2 hK2
      have hwik := HW.out
      have htn := HT.out
      go_region_held3 (fun w' => w'.cell? ⟨b', off + i, none⟩ = some (.int .i64 (x1 : Int)) /\ w'.cell? ⟨g, i + k, none⟩ = some (.int .i64 (z : Int)))
       (first | exact HC1.out)
       (first
        | ((with_reducible refine (at_calls _ _ b (HB.out.later hbd) k y (by omega) HY.out).mono ?_); rintro e w' ⟨rfl, rfl⟩))
      show K2 _ _
      refine hK2 _ _ ?_
      clear hK2 hwik htn hp2
      go_wp2_with fail
      refine ⟨⟨k+1, (z + p + cc) / 256, o.set (i+k) ((z + p + cc) % 256), by omega, by omega, by go_num, by go_num, hide (RowD.step ho.out HLEN.out HY.out hz.out (by rw [HP.out])), ?_, (hb2.setCell (p := ⟨g, i + k, none⟩) hg1 _).drew⟩, by simp [intOf]; omega⟩
      have e : (((z : Int) + p + cc) % 256) = (((z + p + cc) % 256 : Nat) : Int) := by omega
      rw [e]; exact (row_set hr2).drew
    ·have hc0 : cc = 0 := by omega
     subst hc0
     have t1 : decide (k < nb) = false := by simp; omega
     have hnext := hide (MulD.step HA.out.1 HB.out.1 ho0.out (by rw [<- HNA.out]; exact hin) hx.out ho.out (by rw [<- HNB.out]; omega))
     clear hgo
     go_wp2
     go_roundw
     case rel => exact ⟨i+1, o, by omega, by go_num, hnext, hr2, hb2⟩
     case measure => simp [intOf]; omega
  ·obtain rfl : i = na := by omega
   have hfin := hide (MulD.done (by rw [<- HNA.out]; exact ho0.out))
   have hlen := ho0.out.len
   rw [<- HNA.out, <- HNB.out] at hlen
   have hown : OwnNums .i64 3 wr w.heap.size (.slice (some ⟨g, 0, none⟩) (i+nb+1) (i+nb+1)) o0 := OwnNums.of_row hr hg1 hlen (by unfold maxLen; omega)
   have HO := hide hown; have HL := hide hlen
   clear hown hlen
   go_wp2_with fail
   refine (cut_calls _ _ _ _ o0 ⟨ho0.out.lt, HO.out.reads⟩ (by rw [HL.out]; omega)).mono ?_
   rintro e w1 ⟨j, rfl, hj, ht, rfl⟩
   have HT := hide ht
   clear ht
   go_wp2_with fail
   go_ret
   refine ⟨_, rfl, ?_, hb⟩
   have h1 := OwnD.take (k := j) ⟨ho0.out.lt, HO.out⟩ hj
   rw [HT.out, hfin.out] at h1
   exact h1
set_option maxHeartbeats 1000000 in
theorem rnmul_calls (w : World) (va vb : Value) (a b : List Nat) (ha : U32s w va a) (hb : U32s w vb b) (hla : a.length <= 200000000) (hlb : b.length <= 200000000) :
 Calls Tryz.prog 141 #[va, vb] w (Ret w fun w' v' => Own32 160 w' w.heap.size v' (limbs (val a * val b))) := by
 have HA := hide ha; have HB := hide hb
 have h1 := digs_val_len ha.1; have h2 := digs_val_len hb.1
 have h3 := digs_mul_len (k := 800000000) (m := 800000000) (Nat.le_trans h1 (by omega)) (Nat.le_trans h2 (by omega))
 clear ha hb
 go_enter Tryz.func141, Tryz.ntmps141
 go_wp2_with fail
 refine (digits_calls _ _ a HA.out (by omega)).mono ?_
 rintro e w1 ⟨v1, rfl, o1, b1⟩
 have O1 := hide o1; clear o1
 go_wp2_with fail
 refine (digits_calls _ _ b (HB.out.later b1) (by omega)).mono ?_
 rintro e w2 ⟨v2, rfl, o2, b2⟩
 have O2 := hide o2; clear o2
 go_wp2_with fail
 refine (dmul_calls _ _ _ _ _ (O1.out.reads.later b2) O2.out.reads (by omega) (by omega)).mono ?_
 rintro e w3 ⟨v3, rfl, o3, b3⟩
 rw [dval_digs, dval_digs] at o3
 have O3 := hide o3; clear o3
 go_wp2_with fail
 refine (limbs_calls _ _ _ O3.out.reads (by omega)).mono ?_
 rintro e w4 ⟨v4, rfl, o4, b4⟩
 rw [dval_digs] at o4
 have O4 := hide o4; clear o4
 have hL := (b1.trans b2).trans b3
 go_wp2_with fail
 go_ret
 exact ⟨_, rfl, O4.out.weaken hL.size, hL.trans b4⟩
end Go.Proofs.YtncbebfhakcgdaaGreat
namespace Go.Proofs.YtncbebfhakcgdaaGreat
open Go.RowKit
attribute [local go_sem ↓] Go.wp_at_zero Go.wp_at_succ
theorem OwnD.open_ {w : World} {B : Nat} {v : Value} {l : List Nat} (h : OwnD w B v l) : ∃ A n c, v = .slice A n c /\ OwnD w B (.slice A n c) l /\ n = l.length := by
 obtain ⟨A, c, e, -⟩ := h.2.reads.form
 subst e
 exact ⟨A, _, c, rfl, h, rfl⟩
def DivRel (w : World) (a : List Nat) (B : Nat) (q r : Value) (z : Int) (w' : World) : Prop :=
 ∃ (Q : List Nat) (R : Nat), AllD Q /\ OwnNums .i64 3 w' w.heap.size q Q /\ OwnD w' w.heap.size r (digs R) /\ dval (a.drop (z+1).toNat) = dval Q * B + R /\ R < B /\ (Q.length : Int) + z + 1 = a.length /\ Later w w'
set_option maxHeartbeats 4000000 in
theorem ddiv_calls (w : World) (va vb : Value) (a b : List Nat) (ha : DigsAt w va a) (hb : DigsAt w vb b) (hla : a.length <= 900000000) (hlb : b.length <= 900000000) (hb0 : 0 < dval b) :
 Calls Tryz.prog 162 #[va, vb] w (Ret2 w fun w' q r => OwnD w' w.heap.size q (digs (dval a / dval b)) /\ OwnD w' w.heap.size r (digs (dval a % dval b))) := by
 have HA := hide ha; have HB := hide hb
 obtain ⟨A, ca, rfl, hca, hcm, hcA⟩ := ha.2.form
 obtain ⟨B, hB⟩ : ∃ B, B = dval b := ⟨_, rfl⟩
 rw [<- hB] at hb0 ⊢
 have hBl : (digs B).length <= b.length := by rw [hB]; exact length_digs_le (dval_lt hb.1)
 have HBB := hide hB
 clear ha hb hB
 obtain ⟨na, hna⟩ : ∃ n, n = a.length := ⟨_, rfl⟩
 rw [<- hna] at hla hca HA ⊢
 have HNA := hide hna
 clear hna
 go_enter Tryz.func162, Tryz.ntmps162
 go_wp2
 go_loopw [6, 7, 8] (fun q r i wr => ∃ z : Int, -1 <= z /\ z < na /\ i = .int .i64 z /\ Hid (DivRel w a B q r z wr)) (fun _ _ i _ => (intOf i + 1).toNat)
 case atStart => exact ⟨na - 1, by omega, by omega, rfl, hide ⟨[], 0, AllD.nil, OwnNums.nil _ _ _ _, by rw [digs_zero]; exact OwnD.nil _ _, by rw [List.drop_eq_nil_of_le (by rw [<- HNA.out]; omega)]; simp, hb0, by rw [<- HNA.out]; simp, Later.refl w⟩⟩
 case round =>
  obtain ⟨z, hz1, hz2, rfl, hrel⟩ := hrel
  obtain ⟨Q, R, hQ, oq, or, hsum, hR, hlen, hb⟩ := hrel.out
  by_cases h0 : 0 <= z
  ·obtain ⟨k, rfl⟩ := Int.eq_ofNat_of_zero_le h0
   obtain ⟨b', off, x, rfl, hx, hcell⟩ := num_at (hcA.later hb) (k := k) (by rw [<- HNA.out]; omega)
   have hxl : x < 256 := HA.out.1.at_ hx.out
   have hk0 : (0 : Int) <= (k : Int) := by omega
   obtain ⟨A2, n2, c2, rfl, or2, hn2⟩ := or.open_
   have hsum2 : dval (a.drop k) = (256 * dval Q) * B + (x + 256 * R) := by
    rw [dval_drop_getD a k, show dval (a.drop (k+1)) = dval Q * B + R from hsum, List.getD_eq_getElem?_getD, hx.out, Nat.mul_add, <- Nat.mul_assoc]
    show x + (256 * dval Q * B + 256 * R) = _
    omega
   have hRl : (digs R).length <= 900000000 := Nat.le_trans (length_digs_mono (Nat.le_of_lt hR)) (by omega)
   have hQl : Q.length <= 900000000 := by rw [<- HNA.out] at hlen; omega
   have OQ := hide oq; have OR := hide or2; have HS := hide hsum2; have HQ := hide hQ; have HLEN := hide hlen; have HN2 := hide hn2
   clear oq or or2 hsum hsum2 hrel hQ hlen hn2
   have hn9 : (1 : Nat) + n2 <= 4000000000 := by rw [HN2.out]; omega
   have HSRC : Hid (∀ o, Src (wr.alloc o) 1 (.slice A2 n2 c2) n2 (nums .i64 (digs R))) := hide fun o => by
    have h := OR.out.2.later ((Later.refl wr).alloc o)
    unfold OwnNums at h
    rw [<- HN2.out] at h
    exact Src.own h (nums_one _)
   go_wp2_with (at_builtin; refine wpList_append_src rfl (.tmp 21) _ 23 rfl w.heap.size 3 (.int .i64 0) 1 8 Tryz.underlying23 info_int rfl (by omega) (by omega) _ 1 (nums .i64 [x]) rfl (OwnNums.of_row (B := w.heap.size) (Row.new _ _ (nums .i64 [x])) hb.size rfl (by unfold maxLen; omega)) _ n2 (nums .i64 (digs R)) rfl (HSRC.out _) hn9 (Nat.le_trans hb.size (by simp)) ?_; intro v' w1 hown hg hblk)
   have hb1 : Later wr w1 := ((Later.refl wr).alloc _).grown hg (fun j hj => by have hj2 : some wr.heap.size = some j := hj; injection hj2 with hj2; omega)
   have hown2 : OwnNums .i64 3 w1 w.heap.size v' (x :: digs R) := by
    unfold OwnNums
    rw [show (x :: digs R).length = 1 + n2 by rw [HN2.out, List.length_cons, Nat.add_comm]]
    exact hown
   obtain ⟨A3, n3, c3, rfl, od, hn3⟩ := OwnD.open_ (show OwnD w1 w.heap.size v' (x :: digs R) from ⟨AllD.cons hxl (digs_lt R), hown2⟩)
   have OD := hide od; have HN3 := hide hn3
   clear hown hown2 hg hblk od hn3
   go_wp2_with fail
   refine (cut_calls _ _ _ _ (x :: digs R) OD.out.reads (by rw [<- HN3.out]; have := HN3.out; simp only [List.length_cons] at this; omega)).mono ?_
   rintro e w2 ⟨j, rfl, hj, ht, rfl⟩
   obtain ⟨R0, hR0⟩ : ∃ R0, R0 = x + 256 * R := ⟨_, rfl⟩
   have od2 : OwnD w1 w.heap.size (.slice A3 j c3) (digs R0) := by
    have h1 := OD.out.take hj
    rw [ht, dval_cons, dval_digs, <- hR0] at h1; exact h1
   have hR0B : R0 < 256 * B := by omega
   have OD2 := hide od2; have HR0 := hide hR0
   clear od2 ht hR0
   obtain ⟨wo, hwo⟩ : ∃ wo : World, wo = w1 := ⟨_, rfl⟩
   rw [<- hwo] at hb1 OD2 ⊢
   clear hwo
   go_wp2_with fail
   go_loopw [7, 9] (fun r n wr => ∃ (m R1 : Nat), m <= 255 /\ n = .int .i64 (m : Int) /\ Hid (OwnD wr w.heap.size r (digs R1)) /\ Hid (R1 + m * B = R0) /\ Later wo wr) (fun _ n _ => (256 - intOf n).toNat)
   case atStart => exact ⟨0, R0, by omega, rfl, OD2, hide (by omega), Later.refl _⟩
   case round =>
    obtain ⟨m, R1, hm, rfl, o1, hs1, hb3⟩ := hrel
    have hR1 : (digs R1).length <= 900000001 := by
     have h1 : R1 <= 256 * B := by have := hs1.out; have := Nat.zero_le (m * B); omega
     have h2 : (digs (256 * B)).length <= 900000001 := by
      have := digs_mul_len (a := 256) (b := B) (k := 2) (m := (digs B).length) (by rw [digs_pos (by omega), digs_pos (by omega), digs_zero]; simp) (Nat.le_refl _)
      have h3 : (digs (256 * B)).length <= 1 + (digs B).length := by
       refine length_digs_le ?_
       rw [Nat.pow_add]
       have := lt_of_length_digs B
       omega
      omega
     exact Nat.le_trans (length_digs_mono h1) h2
    by_cases hge : B <= R1
    ·have hm2 : m + 1 <= 255 := by
      have h1 := hs1.out
      refine Classical.byContradiction fun hn => ?_
      have h2 : 255 * B <= m * B := Nat.mul_le_mul_right B (by omega)
      omega
     obtain ⟨c, hc⟩ : ∃ c, cmpN R1 B = c := ⟨_, rfl⟩
     have hc0 : 0 <= c := by rw [<- hc]; unfold cmpN; rw [if_neg (by omega)]; split <;> omega
     have t1 : decide (0 <= c) = true := by simpa using hc0
     have HC := hide hc
     have hbb : Later w wr := (hb.trans hb1).trans hb3
     have HBT := hide (HB.out.later hbb)
     clear hc
     go_wp2_with fail
     refine (dcmp_calls _ _ _ (digs R1) b o1.out.reads HBT.out (by omega) (by omega) c (by rw [dval_digs, <- HBB.out]; exact HC.out)).mono ?_
     rintro e w4 ⟨rfl, rfl⟩
     go_wp2_with fail
     refine (dsub_calls _ _ _ (digs R1) b o1.out.reads HBT.out (by omega) (by omega) (by rw [dval_digs, <- HBB.out]; exact hge)).mono ?_
     rintro e w4 ⟨v4, rfl, o4, b4⟩
     rw [dval_digs, <- HBB.out] at o4
     have O4 := hide (o4.weaken hbb.size)
     have HS2 : Hid (R1 - B + (m + 1) * B = R0) := hide (by have := hs1.out; rw [Nat.add_mul]; omega)
     clear o4
     go_wp2_with fail
     go_roundw
     case rel => exact ⟨m+1, R1 - B, hm2, by go_num, O4, HS2, hb3.trans b4⟩
     case measure => simp [intOf]; omega
    ·obtain ⟨c, hc⟩ : ∃ c, cmpN R1 B = c := ⟨_, rfl⟩
     have hc0 : c < 0 := by rw [<- hc]; unfold cmpN; rw [if_pos (by omega)]; omega
     have t1 : decide (0 <= c) = false := by simp; omega
     have HC := hide hc
     have hbb : Later w wr := (hb.trans hb1).trans hb3
     have HBT := hide (HB.out.later hbb)
     obtain ⟨A4, n4, c4, e4, oq4, hn4⟩ := OwnD.open_ (show OwnD wr w.heap.size _ Q from ⟨HQ.out, OQ.out.later (hb1.trans hb3)⟩)
     subst e4
     have HN4 := hide hn4; have OQ4 := hide oq4
     have hn9 : (1 : Nat) + n4 <= 4000000000 := by rw [HN4.out]; omega
     have HSRC : Hid (∀ o, Src (wr.alloc o) 1 (.slice A4 n4 c4) n4 (nums .i64 Q)) := hide fun o => by
      have h := OQ4.out.2.later ((Later.refl wr).alloc o)
      unfold OwnNums at h
      rw [<- HN4.out] at h
      exact Src.own h (nums_one _)
     clear hc hn4 oq4
     go_wp2_with fail
     refine (dcmp_calls _ _ _ (digs R1) b o1.out.reads HBT.out (by omega) (by omega) c (by rw [dval_digs, <- HBB.out]; exact HC.out)).mono ?_
     rintro e w4 ⟨rfl, rfl⟩
     go_wp2_with (at_builtin; refine wpList_append_src rfl (.tmp 35) _ 23 rfl w.heap.size 3 (.int .i64 0) 1 8 Tryz.underlying23 info_int rfl (by omega) (by omega) _ 1 (nums .i64 [m]) rfl (OwnNums.of_row (B := w.heap.size) (Row.new _ _ (nums .i64 [m])) hbb.size rfl (by unfold maxLen; omega)) _ n4 (nums .i64 Q) rfl (HSRC.out _) hn9 (Nat.le_trans hbb.size (by simp)) ?_; intro v5 w5 hown hg hblk)
     have hb5 : Later wr w5 := ((Later.refl wr).alloc _).grown hg (fun j hj => by have hj2 : some wr.heap.size = some j := hj; injection hj2 with hj2; omega)
     have hown2 : OwnNums .i64 3 w5 w.heap.size v5 (m :: Q) := by
      unfold OwnNums
      rw [show (m :: Q).length = 1 + n4 by rw [HN4.out, List.length_cons, Nat.add_comm]]
      exact hown
     have HREL : Hid (DivRel w a B v5 u7 ((k : Int) - 1) w5) := hide ⟨m :: Q, R1, AllD.cons (by omega) HQ.out, hown2, o1.out.later hb5, by
      have h1 := HS.out; have h2 := hs1.out; have h3 := HR0.out
      rw [show ((k : Int) - 1 + 1).toNat = k by omega, h1, dval_cons, Nat.add_mul, <- h3, <- h2]; omega, by omega, by have := HLEN.out; simp only [List.length_cons]; omega, hbb.trans hb5⟩
     clear hown hown2 hg hblk
     go_wp2_with fail
     go_roundw
     case rel => exact ⟨(k : Int) - 1, by omega, by omega, rfl, HREL⟩
     case measure => simp [intOf]
  ·have hz3 : z = -1 := by omega
   subst hz3
   have hs2 : dval a = dval Q * B + R := by simpa using hsum
   have hq : dval a / B = dval Q := by rw [hs2, Nat.mul_comm, Nat.mul_add_div hb0, Nat.div_eq_of_lt hR]; rfl
   have hr : dval a % B = R := by rw [hs2, Nat.mul_comm, Nat.mul_add_mod, Nat.mod_eq_of_lt hR]
   obtain ⟨A2, n2, c2, rfl, oq2, hn2⟩ := OwnD.open_ (show OwnD wr w.heap.size _ Q from ⟨hQ, oq⟩)
   have HQ := hide hq; have HR := hide hr; have OQ := hide oq2; have OR := hide or
   have hQl : Q.length <= 4000000000 := by rw [<- HNA.out] at hlen; omega
   clear hs2 hq hr oq oq2 or hsum hrel hlen hn2
   go_wp2_with fail
   refine (cut_calls _ _ _ _ Q OQ.out.reads hQl).mono ?_
   rintro e w2 ⟨j, rfl, hj, ht, rfl⟩
   have oq3 : OwnD wr w.heap.size (.slice A2 j c2) (digs (dval Q)) := by
    have h1 := OQ.out.take hj
    rw [ht] at h1; exact h1
   have OQ3 := hide oq3
   clear oq3 ht
   go_wp2_with fail
   go_ret2
   exact ⟨_, _, rfl, ⟨by rw [HQ.out]; exact OQ3.out, by rw [HR.out]; exact OR.out⟩, hb⟩
set_option maxHeartbeats 2000000 in
theorem rndiv_calls (w : World) (va vb : Value) (a b : List Nat) (ha : U32s w va a) (hb : U32s w vb b) (hla : a.length <= 200000000) (hlb : b.length <= 200000000) (hb0 : 0 < val b) :
 Calls Tryz.prog 143 #[va, vb] w (Ret3 w fun w' q r ok => Own32 160 w' w.heap.size q (limbs (val a / val b)) /\ Own32 160 w' w.heap.size r (limbs (val a % val b)) /\ ok = .bool true) := by
 have HA := hide ha; have HB := hide hb
 have h1 := digs_val_len ha.1; have h2 := digs_val_len hb.1
 have h3 : (digs (val a / val b)).length <= (digs (val a)).length := length_digs_mono (Nat.div_le_self _ _)
 have h4 : (digs (val a % val b)).length <= (digs (val a)).length := length_digs_mono (Nat.mod_le _ _)
 have h5 : 0 < (digs (val b)).length := length_digs_pos.2 (by omega)
 clear ha hb
 go_enter Tryz.func143, Tryz.ntmps143
 go_wp2_with fail
 refine (digits_calls _ _ b HB.out (by omega)).mono ?_
 rintro e w0 ⟨v0, rfl, o0, b0⟩
 obtain ⟨A0, n0, c0, rfl, o0', hn0⟩ := o0.open_
 have t0 : ((n0 : Int) == 0) = false := by simp; omega
 clear o0 o0' hn0
 go_wp2_with fail
 refine (digits_calls _ _ a (HA.out.later b0) (by omega)).mono ?_
 rintro e w1 ⟨v1, rfl, o1, b1⟩
 have O1 := hide o1; clear o1
 go_wp2_with fail
 refine (digits_calls _ _ b (HB.out.later (b0.trans b1)) (by omega)).mono ?_
 rintro e w2 ⟨v2, rfl, o2, b2⟩
 have O2 := hide o2; clear o2
 go_wp2_with fail
 refine (ddiv_calls _ _ _ _ _ (O1.out.reads.later b2) O2.out.reads (by omega) (by omega) (by rw [dval_digs]; exact hb0)).mono ?_
 rintro e w3 ⟨q, r, rfl, ⟨oq, or⟩, b3⟩
 rw [dval_digs, dval_digs] at oq or
 have OQ := hide oq; have OR := hide or; clear oq or
 go_wp2_with fail
 refine (limbs_calls _ _ _ OQ.out.reads (by omega)).mono ?_
 rintro e w4 ⟨v4, rfl, o4, b4⟩
 rw [dval_digs] at o4
 have O4 := hide o4; clear o4
 go_wp2_with fail
 refine (limbs_calls _ _ _ (OR.out.reads.later b4) (by omega)).mono ?_
 rintro e w5 ⟨v5, rfl, o5, b5⟩
 rw [dval_digs] at o5
 have O5 := hide o5; clear o5
 have hL := b0.trans ((b1.trans b2).trans b3)
 go_wp2_with fail
 go_ret3
 exact ⟨_, _, _, rfl, ⟨(O4.out.later b5).weaken hL.size, O5.out.weaken (hL.trans b4).size, rfl⟩, (hL.trans b4).trans b5⟩
end Go.Proofs.YtncbebfhakcgdaaGreat
namespace Go.Proofs.YtncbebfhakcgdaaGreat
open Go.RowKit
attribute [local go_sem ↓] Go.wp_at_zero Go.wp_at_succ
theorem IsNums.unique {q : IntKind} {w : World} {v : Value} {l m : List Nat} (h : IsNums q w v l) (k : IsNums q w v m) : l = m := by
 obtain ⟨A, c, rfl, -, -, hc⟩ := h.form
 obtain ⟨A', c', e, -, -, kc⟩ := k.form
 injection e with e1 e2 e3
 subst e1
 have hl : l.length = m.length := by omega
 apply List.ext_getElem hl
 intro i h1 h2
 obtain ⟨b, off, rfl, hx⟩ := hc.at_ (k := 0) (by rw [length_nums]; omega)
 obtain ⟨b', off', e, kx⟩ := kc.at_ (k := 0) (by rw [length_nums]; omega)
 injection e with e; injection e with e4 e5; subst e4 e5
 have a1 := hx i _ (nums_get (List.getElem?_eq_getElem h1))
 have a2 := kx i _ (nums_get (List.getElem?_eq_getElem h2))
 rw [a1] at a2
 injection a2 with a2; injection a2 with _ a3
 omega
noncomputable def natOfD (v : Value) (w : World) : Nat := Classical.epsilon (fun n => ∃ l, DigsAt w v l /\ dval l = n)
theorem natOfD_eq {w : World} {v : Value} {l : List Nat} (h : DigsAt w v l) : natOfD v w = dval l := by
 have := Classical.epsilon_spec (p := fun n => ∃ l, DigsAt w v l /\ dval l = n) ⟨dval l, l, h, rfl⟩
 obtain ⟨m, hm, e⟩ := this
 rw [natOfD, <- e, h.2.unique hm.2]
def GcdRelD (w : World) (g : Nat) (va vb : Value) (w' : World) : Prop :=
 ∃ x y : Nat, OwnD w' w.heap.size va (digs x) /\ OwnD w' w.heap.size vb (digs y) /\ Nat.gcd x y = g /\ (digs x).length <= 900000000 /\ (digs y).length <= 900000000 /\ Later w w'
set_option maxHeartbeats 1000000 in
theorem rngcd_calls (w : World) (v u : Value) (a b : List Nat) (h : U32s w v a) (h' : U32s w u b) (ha : a.length <= 200000000) (hb : b.length <= 200000000) :
 Calls Tryz.prog 142 #[v, u] w (Ret w fun w' g => Own32 160 w' w.heap.size g (limbs (Nat.gcd (val a) (val b)))) := by
 obtain ⟨g, hg⟩ : ∃ g, g = Nat.gcd (val a) (val b) := ⟨_, rfl⟩
 rw [<- hg]
 have la := digs_val_len h.1
 have lb := digs_val_len h'.1
 have H := hide h; have H' := hide h'; have HG := hide hg
 clear hg h h'
 go_enter Tryz.func142, Tryz.ntmps142
 go_wp2_with fail
 refine (digits_calls _ _ a H.out (by omega)).mono ?_
 rintro e w1 ⟨v1, rfl, o1, b1⟩
 have O1 := hide o1; clear o1
 go_wp2_with fail
 refine (digits_calls _ _ b (H'.out.later b1) (by omega)).mono ?_
 rintro e w2 ⟨v2, rfl, o2, b2⟩
 have O2 := hide o2; clear o2
 have HR := hide (show GcdRelD w g v1 v2 w2 from ⟨val a, val b, O1.out.later b2, O2.out.weaken b1.size, HG.out.symm, by omega, by omega, b1.trans b2⟩)
 clear la lb
 go_wp2_with fail
 go_loopw [5, 6] (fun va vb w' => GcdRelD w g va vb w') (fun _ vb w' => natOfD vb w')
 case atStart => exact HR.out
 case round =>
  obtain ⟨x, y, ox, oy, hgc, hx, hy, hbl⟩ := hrel
  obtain ⟨A1, n1, c1, rfl, ox, hn1⟩ := ox.open_
  obtain ⟨A2, n2, c2, rfl, oy, hn2⟩ := oy.open_
  by_cases h0 : y = 0
  ·subst h0
   rw [digs_zero] at hn2
   simp only [List.length_nil] at hn2
   subst hn2
   rw [Nat.gcd_zero_right] at hgc
   subst hgc
   have OX := hide ox
   have hxl := hx
   clear hn1 oy ox
   go_wp2_with fail
   refine (limbs_calls _ _ _ OX.out.reads (by omega)).mono ?_
   rintro e w3 ⟨v3, rfl, o3, b3⟩
   rw [dval_digs] at o3
   have O3 := hide o3; clear o3
   go_wp2_with fail
   go_ret
   exact ⟨_, rfl, O3.out.weaken hbl.size, hbl.trans b3⟩
  ·have hp := length_digs_pos.2 h0
   rw [<- hn2] at hp
   have hD := hide (ddiv_calls wr _ _ (digs x) (digs y) ox.reads oy.reads (by omega) (by omega) (by rw [dval_digs]; omega))
   have t0 : decide (0 < n2) = true := by simp; omega
   have t1 : decide ((0 : Int) < (n2 : Int)) = true := by simp; omega
   have HC := hide hgc; have HN1 := hide hn1; have HN2 := hide hn2
   have HE := hide (natOfD_eq oy.reads)
   have HY := hide hy
   have OX := hide ox; have OY := hide oy
   clear hn1 hn2 hp hgc hx hy ox oy
   go_wp2_with fail
   refine hD.out.mono ?_
   rintro e w3 ⟨q, r, rfl, ⟨oq, or⟩, b3⟩
   have OR := hide or
   clear oq or
   go_wp2_with fail
   go_roundw
   case rel =>
    have or := OR.out
    rw [dval_digs, dval_digs] at or
    refine ⟨y, x % y, OY.out.later b3, or.weaken hbl.size, ?_, HY.out, ?_, hbl.trans b3⟩
    ·rw [<- HC.out, Nat.gcd_comm y, <- Nat.gcd_rec, Nat.gcd_comm]
    ·exact Nat.le_trans (length_digs_mono (Nat.le_of_lt (Nat.mod_lt x (Nat.pos_of_ne_zero h0)))) HY.out
   case measure =>
    show natOfD r w3 < natOfD _ wr
    rw [natOfD_eq OR.out.reads, HE.out]; simp only [dval_digs]
    exact Nat.mod_lt _ (Nat.pos_of_ne_zero h0)
end Go.Proofs.YtncbebfhakcgdaaGreat
