/- nat.long: long division. -/
import Derived.Test.YtncbebfhakcgdaaGreatC2
import Derived.RangeFuncBox
import Derived.RangeFuncNested
import Derived.RangeFuncBound
import Derived.RangeFuncCalls
import Derived.RangeFuncLeaves
import Derived.Shelf.Abstract
import Derived.Shelf.RegionOpen
import Derived.OwnWalkIn
import Derived.TacticsInMore
import Derived.LoopNIn
import Derived.LoopIn
import Derived.OrdersHeld
import Derived.Deep.RegionHeld3
import Derived.Test.YtncbebfhakcgdaaGreatC1
import Derived.Handy
set_option linter.unusedVariables false
set_option linter.unusedSimpArgs false
set_option maxRecDepth 100000
namespace Go.Proofs.YtncbebfhakcgdaaGreat
open Go.RowKit
def Whole (T : TypeId) (w : World) (B : Nat) (v : Value) (l : List Nat) : Prop := ∃ g cap sp, v = .slice (some ⟨g, 0, none⟩) l.length cap /\ B <= g /\ Row w g T (nums .u32 l ++ sp) /\ l.length <= cap /\ cap <= maxLen
theorem Own32.whole {T : TypeId} {w : World} {B : Nat} {v : Value} {l : List Nat} (h : Own32 T w B v l) (h0 : 0 < l.length) : Whole T w B v l := by
 rcases h.2.row with ⟨rfl, rfl⟩ | h
 ·simp at h0
 ·exact h
set_option maxHeartbeats 1000000 in
theorem shift_long (w : World) (v : Value) (a : List Nat) (n : Nat) (s : Int) (h : U32s w v a) (hn : n = a.length) (ha : n <= 1000000000) (hs0 : 0 <= s) (hs : s < 32) :
 Calls Tryz.prog 187 #[v, .int .i64 s] w fun e w' => ∃ g cap sp o, e = .returned (.slice (some ⟨g, 0, none⟩) (n + 1) cap) /\ w.heap.size <= g /\ g < w'.heap.size /\ Row w' g 160 (nums .u32 o ++ sp) /\ AllLt o /\ o.length = n + 1 /\ n + 1 <= cap /\ cap <= maxLen /\ val o = val a * 2 ^ s.toNat /\ Later w w' := by
 subst hn
 obtain ⟨t, rfl⟩ := Int.eq_ofNat_of_zero_le hs0
 refine (shift_calls w v a t h ha (by omega)).mono ?_
 rintro e w' ⟨v', rfl, ⟨o, ho, hl, hv⟩, hb⟩
 obtain ⟨g, cap, sp, rfl, h1, h2, h3, h4⟩ := ho.whole (by omega)
 rw [hl] at h3 ⊢
 exact ⟨g, cap, sp, o, rfl, h1, h2.lt, h2, ho.1, hl, h3, h4, by simpa using hv, hb⟩
theorem lead_calls (x : Nat) (s : Nat) (hx : x < 4294967296) (hs : s = 32 - Lib.bitLen x) (hb : Lib.bitLen x <= 32) (w : World) :
 Calls Tryz.prog 186 #[.int .u32 x] w fun e w' => e = .returned (.int .i64 s) /\ w = w' := by
 refine (bits_LeadingZeros32 (x : Int) w (by omega) (by omega)).mono ?_
 rintro e w' ⟨rfl, rfl⟩
 refine ⟨?_, rfl⟩
 rw [Int.toNat_natCast]; congr 2; omega
theorem U32s.of_row {T : TypeId} {w : World} {g n cap : Nat} {l : List Nat} {sp : List Value} (h : Row w g T (nums .u32 l ++ sp)) (hl : AllLt l) (hn : n = l.length) (hc : n <= cap) (hm : cap <= maxLen) : U32s w (.slice (some ⟨g, 0, none⟩) n cap) l := by
 subst hn
 refine ⟨hl, _, cap, rfl, hc, hm, by rw [length_nums]; simp, ?_⟩
 have := Cells.of_row_take h (nums .u32 l).length
 rwa [List.take_left] at this
set_option maxHeartbeats 2000000 in
theorem long_calls (w : World) (va vb : Value) (a b : List Nat) (h : U32s w va a) (h' : U32s w vb b) (ha : a.length <= 1000000000) (hb2 : 2 <= b.length) (hba : b.length <= a.length) (hlast : ∀ x, b[b.length - 1]? = some x -> x ≠ 0) :
 Calls Tryz.prog 180 #[va, vb] w (Ret2 w fun w' q r => Own32 160 w' w.heap.size q (limbs (val a / val b)) /\ Own32 160 w' w.heap.size r (limbs (val a % val b))) := by
 have H1 := hide h; have H2 := hide h'
 obtain ⟨A, ca, rfl, hca, -⟩ := h.form
 obtain ⟨A', cb, rfl, hcb, hcbm, hlb, hcc⟩ := h'.form
 obtain ⟨bb, ob, x, rfl, hx, hxl, hxc⟩ := limb_at hcc hlb (k := b.length - 1) (by omega)
 have hx0 := hlast x hx.out
 obtain ⟨na, hna⟩ : ∃ na, na = a.length := ⟨_, rfl⟩
 obtain ⟨n, hn⟩ : ∃ n, n = b.length := ⟨_, rfl⟩
 rw [<- hna] at ha hba hca H1; rw [<- hn] at hb2 hba hcb hx hxc H2; rw [<- hna, <- hn]
 have HNA := hide hna; have HN := hide hn; clear hna hn h h' hcc hcbm
 obtain ⟨s, hs⟩ : ∃ s, s = 32 - Lib.bitLen x := ⟨_, rfl⟩
 obtain ⟨r1, r2, r3⟩ := lead_range (Nat.pos_of_ne_zero hx0) hxl hs
 have hbl := (bitLen_range 32 x hxl (Nat.le_refl _) (Nat.pos_of_ne_zero hx0)).2.2.2
 have HR2 := hide r2; have HR3 := hide r3; have HS := hide hs
 clear r2 r3 hs
 go_enter Tryz.func180, Tryz.ntmps180
 go_wp2_with ((with_reducible refine (lead_calls x s hxl HS.out hbl _).mono ?_); rintro e w' ⟨rfl, rfl⟩)
 go_region_with (first
  | ((with_reducible refine (shift_long _ _ a na (s : Int) (H1.out.later (Later.refl w).drew) HNA.out (by omega) (by omega) (by omega)).mono ?_); rintro e w1 ⟨g, cap, sp, u0, rfl, hg1, hg2, hr1, hu1, hu2, hu3, hu4, hu5, hb1⟩)
  | ((with_reducible refine (shift_long _ _ b n (s : Int) (H2.out.later ((Later.refl w).drew.trans hb1)) HN.out (by omega) (by omega) (by omega)).mono ?_); rintro e w2 ⟨gv, capv, spv, v0, rfl, hg1v, hg2v, hr1v, hv1, hv2, hv3, hv4, hv5, hb2⟩))
 rw [Int.toNat_natCast] at hu5 hv5
 have hU2 := hide hu2; have hU5 := hide hu5; have hV2 := hide hv2; have hV5 := hide hv5
 clear hu2 hu5 hv2 hv5 hxc
 obtain ⟨v, hv⟩ : ∃ v, v = v0.take n := ⟨_, rfl⟩
 obtain ⟨spw, hspw⟩ : ∃ spw, spw = nums .u32 (v0.drop n) ++ spv := ⟨_, rfl⟩
 have hrv : Row w2 gv 160 (nums .u32 v ++ spw) := by rw [hv, hspw, <- List.append_assoc, <- nums_append, List.take_append_drop]; exact hr1v
 have hvl : AllLt v := by rw [hv]; exact hv1.take n
 have hvn : Hid (n = v.length) := hide (by rw [hv, List.length_take, hV2.out]; omega)
 have hsh := shifted HN.out (by omega) H2.out.1 hx.out HR2.out HR3.out hV2.out hv1 hV5.out
 rw [<- hv] at hsh
 have HSH := hide hsh
 have HB := hide ((top_one HN.out (by omega) H2.out.1 hx.out).1)
 clear hsh hv hspw hr1v
 obtain ⟨V, hV⟩ : ∃ V, V = val b * 2 ^ s := ⟨_, rfl⟩
 have HV := hide hV; clear hV
 have hgvg : gv ≠ g := by omega
 have hbw : Later w w2 := ((Later.refl w).drew.trans hb1).trans hb2
 have hrg2 := hr1.later hb2
 go_wp2_with (at_make; refine wpList_make_u32 rfl (.tmp 35) rfl _ (na - n + 1) rfl (by omega) (by omega) ?_; intro gq w3 hgq hrq hbq)
 have hst := LongInv.start (a := a) (u := u0) (V := V) (na := na) (n := n) (s := s) (d := val b) hba HNA.out H1.out.1 hU2.out hu1 hU5.out HV.out
  (Nat.le_trans (by have := Nat.mul_le_mul_right (4294967296 ^ (n-1)) (Nat.pos_of_ne_zero hx0); rw [Nat.one_mul] at this; exact this) HB.out) (by omega)
 have HST := hide hst; clear hst
 have hgq1 : gq ≠ g := by omega
 have hgq2 : gv ≠ gq := by omega
 have hrg3 := hrg2.later hbq
 have hrv3 := hrv.later hbq
 have hbw3 := hbw.trans hbq
 clear hrg2 hrv hr1 hbq hb1 hb2 hx hbl
 go_loopw [10, 11] (fun jj dd wr => ∃ m ul ql, m <= na - n + 1 /\ jj = .int .i64 (((m : Nat) : Int) - 1) /\ Hid (LongInv (val a * 2 ^ s) V na n ul ql m) /\ Row wr g 160 (nums .u32 ul ++ sp) /\ Row wr gv 160 (nums .u32 v ++ spw) /\ Row wr gq 160 (nums .u32 ql) /\ Later w wr) (fun jj _ _ => (intOf jj + 1).toNat)
 case atStart => exact ⟨na - n + 1, u0, _, Nat.le_refl _, by go_num, HST, hrg3, hrv3, hrq, hbw3⟩
 case round =>
  clear hrg3 hrv3 hrq hbw3 HST
  obtain ⟨m, ul, ql, hm, rfl, hI, hr, hrv, hrq, hb⟩ := hrel
  by_cases hm0 : 0 < m
  ·obtain ⟨j, hj⟩ : ∃ j, m = j + 1 := ⟨m - 1, by omega⟩
   subst hj
   have hulen := hide hI.out.ulen
   have hult := hI.out.ult
   have hj1 : j + n <= na := by omega
   obtain ⟨hi1, e1, -⟩ := row_cell_sp hr (k := j + n) (by rw [hulen.out]; omega)
   obtain ⟨hi0, e2, -⟩ := row_cell_sp hr (k := j + n - 1) (by rw [hulen.out]; omega)
   obtain ⟨low, e3, -⟩ := row_cell_sp hr (k := j + n - 2) (by rw [hulen.out]; omega)
   obtain ⟨top, e4, -⟩ := row_cell_sp hrv (k := n - 1) (by rw [<- hvn.out]; omega)
   obtain ⟨next, e5, -⟩ := row_cell_sp hrv (k := n - 2) (by rw [<- hvn.out]; omega)
   have ht := HSH.out.2.1 top e4.out
   have hvV : Hid (V = val v) := hide (by rw [HV.out, HSH.out.1])
   have hh := high_le hvn.out hb2 hult hvl hvV.out e1.out e4.out hI.out.small
   have hU : U32s wr (.slice (some ⟨g, 0, none⟩) (na + 1) cap) ul := U32s.of_row hr hult hulen.out.symm hu3 hu4
   have hVs : U32s wr (.slice (some ⟨gv, 0, none⟩) n capv) v := U32s.of_row hrv hvl hvn.out (by omega) hv4
   have HU := hide hU; have HVs := hide hVs; clear hU hVs
   have HC := hide (guess_calls wr _ _ ul v n j hi1 hi0 low top next HU.out HVs.out hvn.out hb2 (by rw [hulen.out]; omega) (by rw [hulen.out]; omega) e1.out e2.out e3.out e4.out e5.out ht hh)
   go_wp2_with fail
   refine HC.out.mono ?_
   rintro e w4 ⟨q, rfl, hG, hb4⟩
   have hb5 := hb.trans hb4
   obtain ⟨X, hX⟩ : ∃ X, X = val (stretch ul j (n+1)) := ⟨_, rfl⟩
   have hXV : X < 4294967296 * V := by rw [hX]; exact hI.out.bound hj1
   have hq := guess_ok hvn.out hb2 hult hvl hvV.out hX (by rw [hulen.out]; omega) e1.out e2.out e3.out e4.out e5.out ht hXV hG
   have hqm := hG.most
   have hVn : V < 4294967296 ^ n := by rw [HV.out]; exact HSH.out.2.2
   have hV0 : 0 < V := Nat.lt_of_le_of_lt (Nat.zero_le _) hI.out.small
   have hqV : X / V < 4294967296 := Nat.div_lt_of_lt_mul (by rw [Nat.mul_comm]; exact hXV)
   have HX := hide hX; have HXV := hide hXV; have HQ := hide hq; have HVN := hide hVn; have HQV := hide hqV
   have HLC := hide (less_calls w4 g gv (na+1) cap n capv j q ul v sp spw (hr.later hb4) (hrv.later hb4) hgvg hult hvl hvn.out hulen.out.symm (by omega) hqm (by omega))
   have hrq4 := hrq.later hb4
   have hrv4 := hrv.later hb4
   clear hX hXV hq hVn hqV hr hrv hrq hb hb4 e1 e2 e3 e4 e5 HC ht hh
   go_wp2_with fail
   refine HLC.out.mono ?_
   rintro e w5 ⟨o, bo, rfl, hbo, hs, hsum, hr5, hg5⟩
   have hb6 : Later w w5 := hb5.grown hg5 (fun k hk => by cases hk; exact hg1)
   have hrv5 := hrv4.grown hg5 (by simpa using hgvg)
   have hrq5 := hrq4.grown hg5 (by simpa using hgq1)
   have HSU := hide hsum; have HSA := hide hs
   clear hsum hs hrv4 hrq4 hb5
   rcases Nat.eq_zero_or_pos bo with hbo0 | hbo1
   ·subst hbo0
    have hz := less_zero (by have := HSU.out; rw [Nat.mul_zero, Nat.add_zero, <- hvV.out, <- HX.out] at this; exact this) HQ.out.1 hV0
    have hstep := (hI.out.step hba hj1 HVN.out HX.out HSA.out hz.2).2
    have hql : q < 4294967296 := by rw [hz.1]; exact HQV.out
    rw [<- hz.1] at hstep
    have HSTEP := hide hstep
    obtain ⟨z, -, hzc, hzf⟩ := row_cell hrq5 (k := j) (by rw [hI.out.qlen]; omega)
    clear hz hstep
    go_wp2_with fail
    go_roundw
    case rel => exact ⟨j, o, _, by omega, by go_num, HSTEP, hr5.far (p := ⟨gq, j, none⟩) (fun e => hgq1 e.symm) _, hrv5.far (p := ⟨gq, j, none⟩) hgq2 _, row_set hrq5, hb6.setCell (p := ⟨gq, j, none⟩) (by have := hbw.size; show _ <= gq; omega) _⟩
    case measure => simp [intOf] <;> omega
   ·obtain rfl : bo = 1 := by omega
    have HBC := hide (back_calls w5 g gv (na+1) cap n capv j o v sp spw hr5 hrv5 hgvg HSA.out.lt hvl hvn.out (by rw [HSA.out.len, hulen.out]) (by omega) (by omega))
    have hq0 : 0 < q := by
     have h1 := HSU.out
     have h2 := stretch_lt HSA.out.lt j (n+1)
     refine Nat.pos_of_ne_zero fun h0 => ?_
     rw [h0, Nat.zero_mul, Nat.add_zero, Nat.mul_one] at h1
     omega
    have hqq : q - 1 < 4294967296 := by omega
    have hqi : ((q : Int) - 1) = ((q - 1 : Nat) : Int) := by omega
    clear hr5
    go_wp2_with fail
    refine HBC.out.mono ?_
    rintro e w6 ⟨o', c, rfl, hs', hsum', hr6, hg6⟩
    have hz := less_one (by have := HSU.out; rw [Nat.mul_one, <- hvV.out, <- HX.out] at this; exact this) (stretch_lt HSA.out.lt j (n+1)) HQ.out.2 hV0
     (by rw [Nat.pow_succ]; exact Nat.le_trans (Nat.le_of_lt HVN.out) (Nat.le_mul_of_pos_right _ (by omega))) (by rw [hvV.out]; exact hsum') (stretch_lt hs'.lt j (n+1))
    have hstep := (hI.out.step hba hj1 HVN.out HX.out (HSA.out.trans hs') hz.2.2).2
    rw [<- hz.1] at hstep
    have HSTEP := hide hstep
    have hb7 : Later w w6 := hb6.grown hg6 (fun k hk => by cases hk; exact hg1)
    have hrv6 := hrv5.grown hg6 (by simpa using hgvg)
    have hrq6 := hrq5.grown hg6 (by simpa using hgq1)
    obtain ⟨z, -, hzc, hzf⟩ := row_cell hrq6 (k := j) (by rw [hI.out.qlen]; omega)
    clear hz hstep hs' hsum' hrv5 hrq5 hb6
    have hwq : ((q : Int) - 1) % 4294967296 = ((q - 1 : Nat) : Int) := by omega
    go_wp2_with fail
    go_roundw
    case rel => exact ⟨j, o', _, by omega, by go_num, HSTEP, hr6.far (p := ⟨gq, j, none⟩) (fun e => hgq1 e.symm) _, hrv6.far (p := ⟨gq, j, none⟩) hgq2 _, by first | exact row_set hrq6 | (rw [hqi]; exact row_set hrq6), hb7.setCell (p := ⟨gq, j, none⟩) (by have := hbw.size; show _ <= gq; omega) _⟩
    case measure => simp [intOf] <;> omega
  ·obtain rfl : m = 0 := by omega
   have hD := hI.out.done
   have hdv := scaled_div (m := val a) (d := val b) (Nat.two_pow_pos s)
   rw [<- HV.out] at hdv
   rw [hdv.1, hdv.2] at hD
   have HD := hide hD
   have HUL := hide hI.out.ulen
   have hult := hI.out.ult
   have HQL := hide hI.out.qlen
   have HQT := hide hI.out.qlt
   clear hD hdv hI
   go_wp2_with (at_make; refine wpList_make_u32 rfl (.tmp 65) rfl _ n rfl rfl (by omega) ?_; intro gr w7 hgr hrr hbr)
   obtain ⟨R, hR⟩ : ∃ R, R = val a % val b := ⟨_, rfl⟩
   have HR := hide hR
   have hRul : Hid (val ul = R * 2 ^ s) := hide (by rw [HD.out.2, hR])
   have hRn : Hid (R < 4294967296 ^ n) := hide (by
    have h1 := val_lt H2.out.1
    rw [<- HN.out] at h1
    rw [hR]
    refine Nat.lt_of_le_of_lt (Nat.le_of_lt (Nat.mod_lt _ ?_)) h1
    exact Nat.lt_of_lt_of_le (Nat.mul_pos (Nat.pos_of_ne_zero hx0) (Nat.pow_pos (by omega))) HB.out)
   clear hR
   have hb8 := hb.trans hbr
   have hr8 := hr.later hbr
   have hrq8 := hrq.later hbr
   have hgrg : gr ≠ g := by have := hr.lt; omega
   have hgrq : gr ≠ gq := by have := hrq.lt; omega
   have hgrw : w.heap.size <= gr := Nat.le_trans hb.size hgr
   clear hb hbr hr hrq hrv
   go_loopw [69] (fun i wr => ∃ k o, k <= n /\ i = .int .i64 ((k : Nat) : Int) /\ Hid (Unshift R s n o k) /\ Row wr g 160 (nums .u32 ul ++ sp) /\ Row wr gq 160 (nums .u32 ql) /\ Row wr gr 160 (nums .u32 o) /\ Later w wr) (fun i _ => (n - intOf i).toNat)
   case atStart => exact ⟨0, _, by omega, rfl, hide (Unshift.start R s n), hr8, hrq8, hrr, hb8⟩
   case round =>
    clear hr8 hrq8 hrr hb8
    obtain ⟨k, o, hk, rfl, hU, hr, hrq, hrr, hb⟩ := hrel
    by_cases hkn : k < n
    ·obtain ⟨x0, f1, c1, -⟩ := row_cell_sp hr (k := k) (by rw [HUL.out]; omega)
     obtain ⟨y0, f2, c2, -⟩ := row_cell_sp hr (k := k + 1) (by rw [HUL.out]; omega)
     obtain ⟨z0, -, c3, c4⟩ := row_cell hrr (k := k) (by rw [hU.out.len]; exact hkn)
     have hx0l := hult.at_ f1.out
     have hy0l := hult.at_ f2.out
     have hor := or_u64 hy0l hx0l
     obtain ⟨mm, hmm⟩ : ∃ mm, mm = y0 * 4294967296 + x0 := ⟨_, rfl⟩
     rw [<- hmm] at hor
     have hmml : mm < 18446744073709551616 := by omega
     have HSTEP := hide (hU.out.step hkn r1 hult hRul.out f1.out f2.out)
     rw [<- hmm] at HSTEP
     have hmi : Hid (((mm : Int) / 2 ^ s) % 4294967296 = ((mm / 2 ^ s % 4294967296 : Nat) : Int)) := hide (by simp)
     clear hmm
     go_wp2_with fail
     go_region
     go_wp2_with fail
     go_roundw
     case rel =>
      refine ⟨k+1, _, by omega, by go_num, HSTEP, ?_, ?_, ?_, (hb.setCell (p := ⟨gr, k, none⟩) hgrw _).drew⟩
      ·exact (hr.far (p := ⟨gr, k, none⟩) (fun e => hgrg e.symm) _).drew
      ·exact (hrq.far (p := ⟨gr, k, none⟩) (fun e => hgrq e.symm) _).drew
      ·rw [hmi.out]; exact Row.drew (row_set hrr)
     case measure => simp [intOf] <;> omega
    ·obtain rfl : k = n := by omega
     have hRv := hide (hU.out.done hRn.out)
     have HOQ := hide (show Own32 160 wr w.heap.size (.slice (some ⟨gq, 0, none⟩) (na - k + 1) (na - k + 1)) ql from ⟨HQT.out, OwnNums.of_row hrq (Nat.le_trans hbw.size hgq) HQL.out (by unfold maxLen; omega)⟩)
     have HOR := hide (show Own32 160 wr w.heap.size (.slice (some ⟨gr, 0, none⟩) k k) o from ⟨hU.out.lt, OwnNums.of_row hrr hgrw hU.out.len (by unfold maxLen; omega)⟩)
     have HC1 := hide (trim_calls wr _ ql HOQ.out.reads (by rw [HQL.out]; omega))
     have HLo := hide (show o.length <= 2000000000 by rw [hU.out.len]; omega)
     clear hr hrq hrr hU
     go_wp2_with fail
     refine HC1.out.mono ?_
     rintro e w8 ⟨v1, rfl, ov1, bv1⟩
     go_wp2_with fail
     refine (trim_calls w8 _ o (HOR.out.reads.later bv1) HLo.out).mono ?_
     rintro e w9 ⟨v2, rfl, ov2, bv2⟩
     go_wp2_with fail
     go_ret2
     refine ⟨_, _, rfl, ⟨?_, ?_⟩, (hb.trans bv1).trans bv2⟩
     ·rw [<- HD.out.1]; exact (ov1.weaken hb.size).later bv2
     ·rw [<- HR.out, <- hRv.out]; exact ov2.weaken (hb.trans bv1).size
end Go.Proofs.YtncbebfhakcgdaaGreat
namespace Go.Proofs.YtncbebfhakcgdaaGreat
open Go.RowKit Go.Shelf
attribute [local go_sem] Oper.semAt_some
abbrev Spot (n : Nat) := { p : Nat × Nat // p.1 < n /\ p.2 < 4294967296 }
def spotEnc {n : Nat} (x : Spot n) : Array Value := #[.int .i64 (x.1.1 : Int), .int .u32 (x.1.2 : Int)]
def spots (l : List Nat) (h : AllLt l) : Nat -> List (Spot l.length)
 | 0 => []
 | k + 1 => spots l h k ++ (if hk : k < l.length then [⟨(l.length - 1 - k, l.getD (l.length - 1 - k) 0), by omega, getD_lt h _⟩] else [])
theorem spots_length (l : List Nat) (h : AllLt l) (k : Nat) (hk : k <= l.length) : (spots l h k).length = k := by
 induction k with
 | zero => rfl
 | succ k ih => simp only [spots, dif_pos (show k < l.length from hk), List.length_append, ih (by omega), List.length_singleton]
def KeepBox (n₀ Bs : Nat) (W W' : World) : Prop := Below n₀ W W' /\ W'.heap[Bs]? = W.heap[Bs]?
theorem KeepBox.refl (n₀ Bs : Nat) (W : World) : KeepBox n₀ Bs W W := ⟨Below.refl _ _, rfl⟩
theorem KeepBox.trans {n₀ Bs : Nat} {A B C : World} (h : KeepBox n₀ Bs A B) (k : KeepBox n₀ Bs B C) : KeepBox n₀ Bs A C := ⟨h.1.trans k.1, k.2.trans h.2⟩
theorem KeepBox.putObj {n₀ Bs S : Nat} (h1 : n₀ <= S) (h2 : Bs < S) : ∀ (W : World) (l : Nat) (o o' : Obj), S <= l -> W.heap[l]? = some o -> o.isCells = false -> o.isWalk = false -> KeepBox n₀ Bs W (W.putObj l o') := by
 intro W l o o' hl ho _ _
 refine ⟨(Below.refl _ _).trans ⟨rfl, rfl, rfl, by simp, fun k hk => World.putObj_heap_other (by omega)⟩, World.putObj_heap_other (by omega)⟩
set_option maxHeartbeats 2000000 in
theorem backward1_in (F : Fence) (n : Nat) (hf : F.fn 194) (hro : F.round = none) (hn : 1 <= n) (l Bs n₀ b off cap : Nat) (zs : List Nat) (hz : AllLt zs) (hreach : zs.length <= 1000000000) (hb : b < n₀) (J Jx : List (Spot zs.length) -> World -> Prop)
 (hY : ∀ pre x W, J pre W -> pre.length < zs.length -> YieldAt F (n - 1) Tryz.prog l (spotEnc x) W fun e W' =>
  (e = .returned (.bool true) /\ J (pre ++ [x]) W' /\ KeepBox n₀ Bs W W') ∨ (e = .returned (.bool false) /\ Jx (pre ++ [x]) W'))
 (W : World) (hBc : W.cell? ⟨Bs, 0, none⟩ = some (.slice (some ⟨b, off, none⟩) zs.length cap)) (hc : ∀ j u, (nums .u32 zs)[j]? = some u -> W.cell? ⟨b, off + j, none⟩ = some u) (h0 : J [] W) :
 CallsIn F n Tryz.prog 194 #[.func (.yield l) #[] #[], .pointer (some ⟨Bs, 0, none⟩)] W fun e W' => (∃ v, e = .returned v) /\
  ((∃ ys, ys = spots zs hz zs.length /\ J ys W') ∨ (∃ pre, (∃ k, k <= zs.length /\ pre = spots zs hz k) /\ Jx pre W')) := by
 refine callsIn_of_wp Tryz.func194 rfl hf ?_ hro
 simp only [Tryz.ntmps194, List.size_toArray, List.length_cons, List.length_nil, Nat.reduceAdd, Nat.reduceSub, Array.replicate_succ, Array.replicate_zero, List.push_toArray, List.append_toArray, List.nil_append, List.cons_append]
 obtain ⟨len, hlen⟩ : ∃ len, len = zs.length := ⟨_, rfl⟩
 rw [<- hlen] at hBc hreach
 have HL := hide hlen; clear hlen
 gi_wp2
 gi_loopw [3] (fun i wr => ∃ k m : Nat, k + m = len /\ i = .int .i64 ((m : Int) - 1) /\ J (spots zs hz k) wr /\ KeepBox n₀ Bs W wr) (fun i _ => (intOf i + 1).toNat)
 case atStart => exact ⟨0, len, by omega, rfl, h0, KeepBox.refl _ _ _⟩
 case round =>
  obtain ⟨k, m, hkm, rfl, hJs, hnx⟩ := hrel
  have hBc' : wr.cell? ⟨Bs, 0, none⟩ = some (.slice (some ⟨b, off, none⟩) len cap) := (World.cell?_of_block (a := ⟨Bs, 0, none⟩) hnx.2).trans hBc
  by_cases hlt : 0 < m
  ·obtain ⟨x, hx, hxu⟩ := nums_at (q := .u32) (l := zs) (k := m - 1) (by rw [<- HL.out]; omega)
   have hcx : wr.cell? ⟨b, off + (m - 1), none⟩ = some (.int .u32 (x : Int)) := (hnx.1.cell (p := ⟨b, off + (m - 1), none⟩) hb).trans (hc _ _ hxu)
   have hxl := hz.at_ hx
   obtain ⟨fn, tmps, assign, body, hy, hR⟩ := hY _ ⟨(m - 1, x), by rw [<- HL.out]; omega, hxl⟩ wr hJs (by rw [spots_length _ _ _ (by rw [<- HL.out]; omega), <- HL.out]; omega)
   have HX := hide hx; clear hx hxu
   simp only [spotEnc] at hy
   have e1 : ((m - 1 : Nat) : Int) = (m : Int) - 1 := by omega
   rw [e1] at hy
   clear e1
   gi_wp2
   refine hR.mono ?_
   have hsp : spots zs hz (k + 1) = spots zs hz k ++ [⟨(m - 1, x), by rw [<- HL.out]; omega, hxl⟩] := by
    simp only [spots, dif_pos (show k < zs.length by rw [<- HL.out]; omega)]
    congr 3
    ·have := HL.out; simp only [Prod.mk.injEq]
     have e : zs.length - 1 - k = m - 1 := by omega
     refine ⟨e, ?_⟩
     rw [e, List.getD_eq_getElem?_getD, HX.out]; rfl
   rintro e W3 (⟨rfl, hJ3, hk3⟩ | ⟨rfl, hJx3⟩)
   ·gi_wp2
    go_roundw
    case rel => exact ⟨k + 1, m - 1, by omega, by go_num, by rw [hsp]; exact hJ3, hnx.trans hk3⟩
    case measure => simp [intOf]; omega
   ·gi_wp2
    refine bodyPost_ret (results_none rfl _ _ _) rfl ?_
    exact ⟨⟨_, rfl⟩, .inr ⟨_, ⟨k + 1, by rw [<- HL.out]; omega, hsp.symm⟩, hJx3⟩⟩
  ·obtain rfl : m = 0 := by omega
   obtain rfl : k = len := by omega
   gi_wp2
   go_end0
   exact ⟨⟨_, rfl⟩, .inl ⟨_, by rw [HL.out], hJs⟩⟩
set_option maxHeartbeats 1000000 in
theorem backward_in (F : Fence) (n : Nat) (hf : F.fn 184) (hro : F.round = none) (a : Option Addr) (len cap : Nat) (w : World) :
 CallsIn F n Tryz.prog 184 #[.slice a len cap] w fun e w' => e = .returned (.func (.func 194) #[] #[.pointer (some ⟨w.heap.size, 0, none⟩)]) /\ w' = w.alloc (.cells #[.slice a len cap] 63) := by
 refine callsIn_of_wp Tryz.func184 rfl hf ?_ hro
 simp only [Tryz.ntmps184, List.size_toArray, List.length_cons, List.length_nil, Nat.reduceAdd, Nat.reduceSub, Array.replicate_succ, Array.replicate_zero, List.push_toArray, List.append_toArray, List.nil_append, List.cons_append]
 gi_wp2
 go_ret
 exact ⟨rfl, rfl⟩
theorem backward_stops (F : Fence) (n : Nat) (hf : F.fn 194) (hro : F.round = none) (hn : 1 <= n) (Bs n₀ b off cap : Nat) (zs : List Nat) (hz : AllLt zs) (hreach : zs.length <= 1000000000) (w : World) (hBs : Bs < w.heap.size) (hb : b < n₀) (hn₀ : n₀ <= w.heap.size)
 (hBc : w.cell? ⟨Bs, 0, none⟩ = some (.slice (some ⟨b, off, none⟩) zs.length cap)) (hc : ∀ j u, (nums .u32 zs)[j]? = some u -> w.cell? ⟨b, off + j, none⟩ = some u) :
 SeqStopsK F n Tryz.prog 194 #[.pointer (some ⟨Bs, 0, none⟩)] (spotEnc (n := zs.length)) (KeepBox n₀ Bs) (fun ys => ys = spots zs hz zs.length) (fun pre => ∃ k, k <= zs.length /\ pre = spots zs hz k) zs.length w := fun l J Jx W hW _ _ hY h0 =>
 backward1_in F n hf hro hn l Bs n₀ b off cap zs hz hreach hb J Jx hY W ((hW.cell (p := ⟨Bs, 0, none⟩) hBs).trans hBc) (fun j u hj => (hW.cell (p := ⟨b, off + j, none⟩) (by show b < _; omega)).trans (hc j u hj)) h0
def smStep (d : Nat) (s : List Nat × Nat) (p : Nat × Nat) : List Nat × Nat := (s.1.set p.1 ((s.2 * 4294967296 + p.2) / d), (s.2 * 4294967296 + p.2) % d)
def smAll (n d : Nat) (pre : List (Nat × Nat)) : List Nat × Nat := pre.foldl (smStep d) (List.replicate n 0, 0)
theorem smAll_snoc (n d : Nat) (pre : List (Nat × Nat)) (p : Nat × Nat) : smAll n d (pre ++ [p]) = smStep d (smAll n d pre) p := by simp [smAll, List.foldl_append]
structure SmOk (n d : Nat) (s : List Nat × Nat) : Prop where
 len : s.1.length = n
 lt : AllLt s.1
 rest : s.2 < d
theorem quo_lt {r x d : Nat} (hr : r < d) (hx : x < 4294967296) : (r * 4294967296 + x) / d < 4294967296 := by
 refine Nat.div_lt_of_lt_mul ?_
 have h3 : (r + 1) * 4294967296 <= d * 4294967296 := Nat.mul_le_mul_right _ (by omega)
 omega
theorem SmOk.step {n d : Nat} {s : List Nat × Nat} (h : SmOk n d s) {p : Nat × Nat} (hx : p.2 < 4294967296) : SmOk n d (smStep d s p) :=
 ⟨by simp [smStep, h.len], h.lt.set _ _ (quo_lt h.rest hx), Nat.mod_lt _ (by have := h.rest; omega)⟩
theorem SmOk.all {n d : Nat} (hd : 0 < d) (pre : List (Spot n)) : SmOk n d (smAll n d (pre.map (·.1))) := by
 suffices h : ∀ s, SmOk n d s -> SmOk n d ((pre.map (·.1)).foldl (smStep d) s) from h _ ⟨by simp, AllLt.replicate _, hd⟩
 induction pre with
 | nil => intro s h; exact h
 | cons x pre ih => intro s h; exact ih _ (h.step x.2.2)
theorem small_law (l : List Nat) (h : AllLt l) (d : Nat) (hd : 0 < d) (k : Nat) (hk : k <= l.length) :
 let s := smAll l.length d ((spots l h k).map (·.1))
 s.1.length = l.length /\ val (s.1.drop (l.length - k)) * d + s.2 = val (l.drop (l.length - k)) /\ s.2 < d := by
 induction k with
 | zero => simp only [spots, List.map_nil, smAll, List.foldl_nil]; exact ⟨by simp, by simp, hd⟩
 | succ k ih =>
   obtain ⟨i1, i2, i3⟩ := ih (by omega)
   simp only [spots, dif_pos (show k < l.length from hk), List.map_append, List.map_cons, List.map_nil, smAll_snoc]
   obtain ⟨s, hs⟩ : ∃ s, s = smAll l.length d ((spots l h k).map (·.1)) := ⟨_, rfl⟩
   rw [<- hs] at i1 i2 i3 ⊢
   obtain ⟨j, hj⟩ : ∃ j, j = l.length - 1 - k := ⟨_, rfl⟩
   have e1 : l.length - (k + 1) = j := by omega
   have e2 : l.length - k = j + 1 := by omega
   rw [e2] at i2
   rw [e1, <- hj]
   have hjl : j < l.length := by omega
   obtain ⟨x, hx⟩ : ∃ x, l[j]? = some x := ⟨l[j], List.getElem?_eq_getElem hjl⟩
   have hg : l.getD j 0 = x := by rw [List.getD_eq_getElem?_getD, hx]; rfl
   refine ⟨by simp [smStep, i1], ?_, Nat.mod_lt _ hd⟩
   simp only [smStep, hg]
   rw [drop_cons (x := (s.2 * 4294967296 + x) / d) (by simp [i1, hjl]), List.drop_set_of_lt (by omega), drop_cons hx, <- i2]
   have h1 := Nat.div_add_mod' (s.2 * 4294967296 + x) d
   rw [Nat.add_mul, Nat.mul_assoc]
   omega
end Go.Proofs.YtncbebfhakcgdaaGreat
namespace Go.Proofs.YtncbebfhakcgdaaGreat
open Go.RowKit
def noDefer (ops : Array Oper) : Bool := ops.toList.all fun o => match o.op with | .defer _ => false | _ => true
theorem noDefer_spec {ops : Array Oper} (h : noDefer ops = true) {i : Nat} {o : Oper} (ho : ops[i]? = some o) : ∀ c, o.op ≠ .defer c := by
 intro c hc
 have h1 := List.all_eq_true.1 h o (by have := Array.mem_of_getElem? ho; simpa using this)
 rw [hc] at h1
 cases h1
theorem rowsIn_wide {P : Program} {n : Nat} {row : String} {args : Array Value} {w : World} {R : Value -> World -> Prop} (h : Rows P row args w R) : RowsIn Fence.wide n P row args w R :=
 fun c cs _ => let ⟨v, w', r, s⟩ := h c cs; ⟨v, w', r, stepsIn_wide.2 s⟩
theorem wpIn_of_wp {P : Program} {n l : Nat} {o : Oper} {a : Act} {w : World} {K K' : Act -> World -> Prop} {Q : Exit -> Act -> World -> Prop} (hd : ∀ c, o.op ≠ .defer c) (hQ : ∀ a w, ¬ Q .outgrown a w) (hK : ∀ a w, K a w -> K' a w) (h : o.wp P a w K Q) :
 o.wpIn (Fence.wide.inRound l) n P a w K' Q := by
 refine ⟨fun _ _ => trivial, ?_⟩
 rw [Oper.semAt_eq _ _ _ hd]
 unfold Oper.wp at h
 generalize (execOp a.eval o).run P w = r at h
 cases r with
 | ok nx w' =>
   cases nx with
   | value v => exact hK _ _ h
   | skip => exact hK _ _ h
   | defer d => exact hK _ _ h
   | enter f args =>
     refine ⟨(fun hh => by cases hh), CallsIn.inRound l (callsIn_wide.2 (Calls.mono h fun e w'' he => ?_))⟩
     cases e with
     | returned v => exact hK _ _ he
     | panicked c => exact he
     | outgrown => exact he
   | row r args => exact ⟨(fun hh => by cases hh), fun c cs hr => (rowsIn_wide (Rows.mono h fun v w'' hv => hK _ _ hv)) c cs hr⟩
   | round l f tmps assign body => exact h.elim
   | _ => exact h.elim
 | halt x w' =>
   cases x with
   | panic v => exact h
   | _ => exact h.elim
theorem wpOpsIn_of_wpOps {P : Program} {n l : Nat} {ops : Array Oper} {Q : Exit -> Act -> World -> Prop} (hd : noDefer ops = true) (hQ : ∀ a w, ¬ Q .outgrown a w) : ∀ (s : List Nat) (a : Act) (w : World), wpOps P ops Q s a w -> wpOpsIn (Fence.wide.inRound l) n P ops Q s a w
 | [], _, _, h => h
 | i :: rest, a, w, h => by
   unfold wpOps at h
   unfold wpOpsIn
   split at h
   ·rename_i ho; simp only [ho]; exact wpOpsIn_of_wpOps hd hQ rest a w h
   ·rename_i o ho
    simp only [ho]
    split at h
    ·rename_i hw
     rw [if_pos hw]
     rcases h with h | ⟨_, a0, w0, hq⟩
     ·exact wpIn_of_wp (noDefer_spec hd ho) hQ (fun a w => wpOpsIn_of_wpOps hd hQ rest a w) h
     ·exact (hQ _ _ hq).elim
    ·rename_i hw
     rw [if_neg hw]
     exact ⟨fun _ _ => trivial, wpOpsIn_of_wpOps hd hQ rest _ w h⟩
theorem wpIn_region_round {P : Program} {n l id : Nat} {ops : Array Oper} {Q : Exit -> Act -> World -> Prop} {a : Act} {w : World} {S : World -> Prop} (hm : P.follows .mixedOrders = true) (hd : noDefer ops = true) (hQ : ∀ a w, ¬ Q .outgrown a w) (hS : S w.drew)
 (h : S w.drew -> wpAnyH P .any ops Q S ops.size (Array.replicate ops.size false) a w.drew) : (Code.region id ops true).wpIn (Fence.wide.inRound l) n P Q a w := by
 refine wpIn_region_draw fun t => wpOpsIn_of_wpOps hd hQ _ _ _ ?_
 simp only [Region.schedule, hm, Bool.true_or, if_true]
 exact wpAny_sound ops.size t _ a _ (wpAny_of_held _ _ _ _ (h hS))
end Go.Proofs.YtncbebfhakcgdaaGreat
namespace Go.Proofs.YtncbebfhakcgdaaGreat
open Go.RowKit Go.Shelf
attribute [local go_sem] Oper.semAt_some
theorem row_of_full {w w' : World} {n : Nat} (h : w'.ownsRow w.heap.size 160 1 (.slice (some ⟨w.heap.size, 0, none⟩) n n) n (madeCells (Value.int .u32 0).cells (n * 1)).toList) :
 ∃ g, g = w.heap.size /\ Row w' g 160 (nums .u32 (List.replicate n 0)) /\ True := by
 refine ⟨_, rfl, ?_, trivial⟩
 obtain ⟨hlen, hh⟩ := h
 have hmc : (madeCells (Value.int .u32 0).cells (n * 1)).toList = List.replicate n (Value.int .u32 0) := by
  apply List.ext_getElem
  ·simp [madeCells]
  ·intro k hk1 hk2
   simp [madeCells, Value.cells, Nat.mod_one]
 rw [hmc] at hh hlen
 rcases hh with ⟨h, rfl⟩ | ⟨g, cap, cur, h, hb', hg', hn, hm, hsz, ht⟩
 ·simp at h
 ·simp only [Value.slice.injEq, Option.some.injEq, Addr.mk.injEq, and_true] at h
  obtain ⟨h5, h6⟩ := h
  have h7 : g = w.heap.size := by simpa using h5.symm
  subst h7
  have h8 : cap = n := by omega
  subst h8
  have h9 : cur.toList = List.replicate cap (Value.int .u32 0) := by
   rw [<- ht]; symm; apply List.take_of_length_le; rw [Array.length_toList, hsz]; exact Nat.le_refl _
  unfold Row; rw [hg', nums_replicate, <- h9]
theorem wpListIn_make_u32 {F : Fence} {m : Nat} {w : World} {ops : Array Oper} {rest : List Oper} {o : Oper} {a : Act} {Q : Exit -> Act -> World -> Prop}
 (hg : o.guard = none) (l : Operand) (hop : o.op = Op.makeSlice 63 l l) (L : Int) (n : Nat) (hl : a.eval l = .int .i64 L) (hL : L = (n : Int)) (b2 : n <= 4000000000)
 (hK : ∀ g w', w.heap.size <= g -> Row w' g 160 (nums .u32 (List.replicate n 0)) -> Later w w' -> wpListIn F m Tryz.prog ops Q rest (a.put o.dst (.slice (some ⟨g, 0, none⟩) n n)) w') :
 wpListIn F m Tryz.prog ops Q (o :: rest) a w := by
 obtain ⟨i, hi, hz, hs, hb⟩ := info_parts info_u32
 refine wpListIn_plain hg fun K hK' => ?_
 obtain ⟨w', hrun, hown, hgr⟩ := run_make_full (P := Tryz.prog) w w.heap.size 63 160 i (.int .u32 0) 1 Tryz.underlying63 hi hz hs .i64 .i64 n (by rw [hb]; omega) (by unfold maxLen; omega) (Nat.le_refl _)
 subst hL
 unfold Oper.wpIn
 refine ⟨?_, ?_⟩
 ·simp [Oper.about, hop]
 ·rw [Oper.semAt_plain F _ _ (by rw [hop]; intro c hc'; cases hc')]
  simp [execOp, hop, hl, hrun, Result.andThen]
  obtain ⟨g, h1, h2, h3⟩ := row_of_full hown
  subst h1
  exact hK' _ _ (hK _ w' (Nat.le_refl _) h2 (Later.grown (Later.refl w) hgr (fun k hk => by cases hk)))
theorem KeepsOthers.drewN (W : World) (n : Nat) : KeepsOthers W (W.drewN n) := ⟨Nat.le_refl _, fun _ _ h _ => h⟩
theorem row_own {W W' : World} {g : Nat} {t : TypeId} {cs : List Value} {row : Option Nat} (h : Row W g t cs) (hg : W.grownBy W' row) (hr : ∀ r, row = some r -> ∃ o : Obj, W.heap[r]? = some o /\ o.isCells = false) : Row W' g t cs := by
 refine h.grown hg fun e => ?_
 obtain ⟨o, ho, hc⟩ := hr g e.symm
 unfold Row at h
 rw [h] at ho; cases ho; cases hc
set_option maxHeartbeats 8000000 in
theorem small_in (w : World) (v : Value) (a : List Nat) (d : Nat) (h : U32s w v a) (ha : a.length <= 1000000000) (ha0 : 0 < a.length) (hd : 0 < d) (hdl : d < 4294967296) :
 CallsIn Fence.wide 10 Tryz.prog 179 #[v, .int .u32 d] w (Ret2 w fun w' q r => Own32 160 w' w.heap.size q (limbs (val a / d)) /\ r = .int .u32 (val a % d : Nat)) := by
 have H1 := hide h
 obtain ⟨A, ca, rfl, hca, hcm, hlt, hc⟩ := h.form
 obtain ⟨b, off, rfl, hcc⟩ := hc.at_ (k := 0) (by rw [length_nums]; exact ha0)
 have hbw : b < w.heap.size := by
  obtain ⟨x, hx, hxu⟩ := nums_at (q := .u32) ha0
  exact World.block_lt_of_cell? w _ (hcc 0 _ hxu)
 obtain ⟨n, hn⟩ : ∃ n, n = a.length := ⟨_, rfl⟩
 rw [<- hn] at ha ha0 hca H1; rw [<- hn]
 have HN := hide hn; clear hn h hc
 refine callsIn_of_wp_marks Tryz.func179 rfl trivial ?_ rfl
 simp only [Tryz.ntmps179, List.size_toArray, List.length_cons, List.length_nil, Nat.reduceAdd, Nat.reduceSub, Array.replicate_succ, Array.replicate_zero, List.push_toArray, List.append_toArray, List.nil_append, List.cons_append]
 gi_wp2_with (first
  | (gi_at_make; refine wpListIn_make_u32 rfl (.tmp 11) rfl _ n rfl rfl (by omega) ?_; intro g w1 hg1 hr1 hb1)
  | (refine ⟨trivial, ?_⟩; gi_at_call 184; refine (backward_in Fence.wide _ trivial rfl _ _ _ _).mono ?_; rintro e w' ⟨rfl, rfl⟩)
  | (gi_at_call 184; refine (backward_in Fence.wide _ trivial rfl _ _ _ _).mono ?_; rintro e w' ⟨rfl, rfl⟩))
 obtain ⟨W0, hW0⟩ : ∃ W0, W0 = (((w1.alloc (Obj.cells #[Value.slice (some ⟨g, 0, none⟩) n n] 63)).alloc (Obj.cells #[Value.int IntKind.u32 0] 160)).alloc (Obj.cells #[Value.slice (some ⟨b, off, none⟩) n ca] 63)) := ⟨_, rfl⟩
 have hgd : w.heap.size + 1 <= g := by simpa using hg1
 have hgl := hr1.lt
 have rd1 := (Row.new w 160 [.int .u32 (d : Int)]).later hb1
 have hL1 : Later w w1 := ((Later.refl w).alloc _).trans hb1
 have rd : Row W0 w.heap.size 160 [.int .u32 (d : Int)] := by rw [hW0]; exact ((rd1.alloc _).alloc _).alloc _
 have rg : Row W0 g 160 (nums .u32 (List.replicate n 0)) := by rw [hW0]; exact ((hr1.alloc _).alloc _).alloc _
 have ro : Row W0 w1.heap.size 63 [.slice (some ⟨g, 0, none⟩) n n] := by rw [hW0]; exact ((Row.new w1 63 [.slice (some ⟨g, 0, none⟩) n n]).alloc _).alloc _
 have rr : Row W0 (w1.heap.size + 1) 160 [.int .u32 ((0 : Nat) : Int)] := by
  rw [hW0]
  have := Row.new (w1.alloc (Obj.cells #[Value.slice (some ⟨g, 0, none⟩) n n] 63)) 160 [.int .u32 ((0 : Nat) : Int)]
  rw [World.size_alloc] at this
  exact this.alloc _
 have rs : W0.cell? ⟨w1.heap.size + 1 + 1, 0, none⟩ = some (.slice (some ⟨b, off, none⟩) n ca) := by
  rw [hW0]
  have := Row.new ((w1.alloc (Obj.cells #[Value.slice (some ⟨g, 0, none⟩) n n] 63)).alloc (Obj.cells #[Value.int IntKind.u32 0] 160)) 63 [.slice (some ⟨b, off, none⟩) n ca]
  rw [World.size_alloc, World.size_alloc] at this
  exact this.cell rfl
 have hsz : W0.heap.size = w1.heap.size + 3 := by rw [hW0]; simp
 have hLW : Later w W0 := by rw [hW0]; exact ((hL1.alloc _).alloc _).alloc _
 have hws := hL1.size
 rw [<- hW0]
 clear hW0 hr1 hg1 hb1 rd1
 have hnn := HN.out
 subst hnn
 refine wpIn_rangeFunc_ownG (α := Spot a.length) rfl (by omega) (gf := 194) (lb := #[.pointer (some ⟨w1.heap.size + 1 + 1, 0, none⟩)]) rfl trivial (enters_of Tryz.func194 (by kernel_rfl) rfl)
  (backward_stops Fence.wide (10 - 1) trivial rfl (by omega) (w1.heap.size + 1 + 1) w.heap.size b off ca a hlt ha W0 (by omega) hbw hLW.size rs (fun j u hj => hLW.cell (hcc j u hj))) KeepBox.trans (KeepBox.putObj hLW.size (by omega)) (Below.refl _ _) (fun _ => rfl)
  (fun pre W => (Row W w.heap.size 160 [.int .u32 (d : Int)] /\ Row W w1.heap.size 63 [.slice (some ⟨g, 0, none⟩) a.length a.length] /\ Row W (w1.heap.size + 1) 160 [.int .u32 ((smAll a.length d (pre.map (·.1))).2 : Int)] /\ Row W g 160 (nums .u32 (smAll a.length d (pre.map (·.1))).1)) /\ Below w.heap.size w W)
  (fun _ _ _ => False)
  (OwnFrom.and (Own.from (fun s X Y row hs hg hr => ⟨row_own hs.1 hg hr, row_own hs.2.1 hg hr, row_own hs.2.2.1 hg hr, row_own hs.2.2.2 hg hr⟩) _) (ownFrom_below (Nat.le_refl _) hLW.size))
  (fun _ _ _ _ _ hs _ _ => hs)
  ⟨⟨rd, ro, rr, rg⟩, hLW⟩
  (fun x => { tmps := #[.slice (some ⟨b, off, none⟩) a.length ca, .int .u32 (d : Int), undef, .pointer (some ⟨w.heap.size, 0, none⟩), .slice none 0 0, .int .u32 0, .pointer (some ⟨w1.heap.size, 0, none⟩), .pointer (some ⟨w1.heap.size + 1, 0, none⟩), .int .i64 (x.1.1 : Int), .int .u32 (x.1.2 : Int),
   .slice (some ⟨b, off, none⟩) a.length ca, .int .i64 a.length, .slice (some ⟨g, 0, none⟩) a.length a.length, .slice (some ⟨b, off, none⟩) a.length ca, .func (.func 194) #[] #[.pointer (some ⟨w1.heap.size + 1 + 1, 0, none⟩)], .int .i64 (x.1.1 : Int), .int .u32 (x.1.2 : Int),
   undef, undef, undef, undef, undef, undef, undef, undef, undef, undef, undef, undef, undef], defers := [] }) ?assign ?body ?done ?stop
 case assign =>
  intro l x W K hK
  simp only [spotEnc]
  gi_wp2
  exact hK
 case body =>
  rintro l pre x W ⟨⟨i1, i2, i3, i4⟩, hB⟩ hpl
  obtain ⟨⟨i, y⟩, hi, hy⟩ := x
  have hok := SmOk.all (n := a.length) hd pre
  obtain ⟨s, hs⟩ : ∃ s, s = smAll a.length d (pre.map (·.1)) := ⟨_, rfl⟩
  rw [<- hs] at hok i3 i4
  have c1 := i1.cell (i := 0) (u := .int .u32 (d : Int)) rfl
  have c2 := i2.cell (i := 0) (u := .slice (some ⟨g, 0, none⟩) a.length a.length) rfl
  have c3 := i3.cell (i := 0) (u := .int .u32 (s.2 : Int)) rfl
  have f3 := i3.frozen 0
  obtain ⟨z, -, c4, f4⟩ := row_cell i4 (k := i) (by rw [hok.len]; exact hi)
  have hmx : Tryz.prog.follows .mixedOrders = true := by kernel_rfl
  have h11 : 1 <= 10 - 1 - 1 := by omega
  have hrd := hok.rest
  obtain ⟨r, hr⟩ : ∃ r, r = s.2 := ⟨_, rfl⟩
  rw [<- hr] at c3 i3 hrd
  have HS := hide hs; have HR := hide hr; clear hs hr
  dsimp only at hi hy ⊢
  gi_wp2
  have hQ1 : Hid (((r : Int) * 4294967296 + y) / d = (((r * 4294967296 + y) / d : Nat) : Int)) := hide <| by rw [Int.natCast_ediv]; simp
  have hQ2 : Hid (((r : Int) * 4294967296 + y) % d = (((r * 4294967296 + y) % d : Nat) : Int)) := hide <| by rw [Int.natCast_emod]; simp
  have hk1 : ∀ (W' : World) (p : Nat) (o : Nat) (u : Value), p ≠ w1.heap.size -> p ≠ w.heap.size -> W'.cell? ⟨w1.heap.size, 0, none⟩ = some (.slice (some ⟨g, 0, none⟩) a.length a.length) /\ W'.cell? ⟨w.heap.size, 0, none⟩ = some (.int .u32 (d : Int)) ->
   (W'.setCell ⟨p, o, none⟩ u).cell? ⟨w1.heap.size, 0, none⟩ = some (.slice (some ⟨g, 0, none⟩) a.length a.length) /\ (W'.setCell ⟨p, o, none⟩ u).cell? ⟨w.heap.size, 0, none⟩ = some (.int .u32 (d : Int)) := by
   intro W' p o u h1 h2 h3
   exact ⟨(World.cell?_setCell_other W' _ _ u (by intro e; injection e with e1; exact h1 e1)).trans h3.1, (World.cell?_setCell_other W' _ _ u (by intro e; injection e with e1; exact h2 e1)).trans h3.2⟩
  have HK := hide hk1; clear hk1
  refine wpIn_region_round (S := fun w' => w'.cell? ⟨w1.heap.size, 0, none⟩ = some (.slice (some ⟨g, 0, none⟩) a.length a.length) /\ w'.cell? ⟨w.heap.size, 0, none⟩ = some (.int .u32 (d : Int))) hmx (by kernel_rfl) (fun _ _ h => h) ⟨c2, c1⟩ (fun hHeld => ?_)
  refine wpAnyH_take (i := 0) (oi := _) (v := ?_) rfl (by kernel_rfl) (by kernel_rfl) (by kernel_rfl) (fun _ _ _ h => h) (Or.inl ⟨by rfl, ?_⟩) (by assumption) ?_
  rotate_left
  ·intro w hSw; (try dsimp only at hSw); go_simp
   first | done | with_reducible rfl
  try simp only [Act.put, s1_, s2_, s3_]
  refine wpAnyH_take (i := 1) (oi := _) (v := ?_) rfl (by kernel_rfl) (by kernel_rfl) (by kernel_rfl) (fun _ _ _ h => h) (Or.inl ⟨by rfl, ?_⟩) (by assumption) ?_
  rotate_left
  ·intro w hSw; (try dsimp only at hSw); go_simp
   first | done | with_reducible rfl
  try simp only [Act.put, s1_, s2_, s3_]
  refine wpAnyH_take (i := 3) (oi := _) (v := ?_) rfl (by kernel_rfl) (by kernel_rfl) (by kernel_rfl) (fun _ _ _ h => h) (Or.inl ⟨by rfl, ?_⟩) (by assumption) ?_
  rotate_left
  ·intro w hSw; (try dsimp only at hSw); go_simp
   first | done | with_reducible rfl
  try simp only [Act.put, s1_, s2_, s3_]
  refine wpAnyH_take (i := 4) (oi := _) (v := ?_) rfl (by kernel_rfl) (by kernel_rfl) (by kernel_rfl) (fun _ _ _ h => h) (Or.inl ⟨by rfl, ?_⟩) (by assumption) ?_
  rotate_left
  ·intro w hSw; (try dsimp only at hSw); go_simp
   first | done | with_reducible rfl
  try simp only [Act.put, s1_, s2_, s3_]
  refine wpAnyH_ready (rs := [2]) (by kernel_rfl) (by simp) ?_
  refine AllReadyH.cons rfl (fun K hK => ?_) AllReadyH.nil
  go_simp
  refine hK.out _ _ ?_ (fun hHeld => ?_)
  ·exact ⟨c2, c1⟩
  clear hK K
  try simp only [Act.put, s1_, s2_, s3_]
  refine wpAnyH_ready (rs := [5]) (by kernel_rfl) (by simp) ?_
  refine AllReadyH.cons rfl (fun K hK => ?_) AllReadyH.nil
  go_simp
  refine (div32_calls r y d hrd hy hdl _).mono ?_; rintro e w' ⟨rfl, nq, rfl⟩
  refine hK.out _ _ ?_ (fun hHeld => ?_)
  ·exact ⟨c2, c1⟩
  clear hK K
  try simp only [Act.put, s1_, s2_, s3_]
  refine wpAnyH_take (i := 6) (oi := _) (v := ?_) rfl (by kernel_rfl) (by kernel_rfl) (by kernel_rfl) (fun _ _ _ h => h) (Or.inl ⟨by rfl, ?_⟩) (by assumption) ?_
  rotate_left
  ·intro w hSw; (try dsimp only at hSw); go_simp
   first | done | with_reducible rfl
  try simp only [Act.put, s1_, s2_, s3_]
  refine wpAnyH_take (i := 7) (oi := _) (v := ?_) rfl (by kernel_rfl) (by kernel_rfl) (by kernel_rfl) (fun _ _ _ h => h) (Or.inl ⟨by rfl, ?_⟩) (by assumption) ?_
  rotate_left
  ·intro w hSw; (try dsimp only at hSw); go_simp
   first | done | with_reducible rfl
  try simp only [Act.put, s1_, s2_, s3_]
  refine wpAnyH_take (i := 8) (oi := _) (v := ?_) rfl (by kernel_rfl) (by kernel_rfl) (by kernel_rfl) (fun _ _ _ h => h) (Or.inl ⟨by rfl, ?_⟩) (by assumption) ?_
  rotate_left
  ·intro w hSw; (try dsimp only at hSw); go_simp
   first | done | with_reducible rfl
  try simp only [Act.put, s1_, s2_, s3_]
  refine wpAnyH_take (i := 9) (oi := _) (v := ?_) rfl (by kernel_rfl) (by kernel_rfl) (by kernel_rfl) (fun _ _ _ h => h) (Or.inl ⟨by rfl, ?_⟩) (by assumption) ?_
  rotate_left
  ·intro w hSw; (try dsimp only at hSw); go_simp
   first | done | with_reducible rfl
  try simp only [Act.put, s1_, s2_, s3_]
  refine wpAnyH_ready (rs := [10]) (by kernel_rfl) (by simp) ?_
  refine AllReadyH.cons rfl (fun K hK => ?_) AllReadyH.nil
  go_simp
  refine hK.out _ _ ?_ (fun hHeld => ?_)
  ·exact HK.out _ g i _ (by omega) (by omega) ⟨c2, c1⟩
  clear hK K
  try simp only [Act.put, s1_, s2_, s3_]
  refine wpAnyH_ready (rs := [11]) (by kernel_rfl) (by simp) ?_
  refine AllReadyH.cons rfl (fun K hK => ?_) AllReadyH.nil
  go_simp
  refine hK.out _ _ ?_ (fun hHeld => ?_)
  ·exact HK.out _ (w1.heap.size + 1) 0 _ (by omega) (by omega) (HK.out _ g i _ (by omega) (by omega) ⟨c2, c1⟩)
  clear hK K
  try simp only [Act.put, s1_, s2_, s3_]
  refine wpAnyH_done (by kernel_rfl) ?_ _
  have hst : smAll a.length d ((pre ++ [(⟨(i, y), hi, hy⟩ : Spot a.length)]).map (·.1)) = (s.1.set i ((r * 4294967296 + y) / d), (r * 4294967296 + y) % d) := by
   rw [List.map_append, List.map_cons, List.map_nil, smAll_snoc, <- HS.out, HR.out]; rfl
  have i1' := (i1.far (p := ⟨g, i, none⟩) (by show w.heap.size ≠ g; omega) (.int .u32 (((r * 4294967296 + y) / d : Nat) : Int))).far (p := ⟨w1.heap.size + 1, 0, none⟩) (by show w.heap.size ≠ w1.heap.size + 1; omega) (.int .u32 (((r * 4294967296 + y) % d : Nat) : Int))
  have i2' := (i2.far (p := ⟨g, i, none⟩) (by show w1.heap.size ≠ g; omega) (.int .u32 (((r * 4294967296 + y) / d : Nat) : Int))).far (p := ⟨w1.heap.size + 1, 0, none⟩) (by show w1.heap.size ≠ w1.heap.size + 1; omega) (.int .u32 (((r * 4294967296 + y) % d : Nat) : Int))
  have i3' := (i3.far (p := ⟨g, i, none⟩) (by show w1.heap.size + 1 ≠ g; omega) (.int .u32 (((r * 4294967296 + y) / d : Nat) : Int))).set_ 0 (.int .u32 (((r * 4294967296 + y) % d : Nat) : Int))
  have i4' := (row_set (k := i) (x := (r * 4294967296 + y) / d) i4).far (p := ⟨w1.heap.size + 1, 0, none⟩) (by show g ≠ w1.heap.size + 1; omega) (.int .u32 (((r * 4294967296 + y) % d : Nat) : Int))
  show Exit.inBlock 1 _ Exit.normal _ _
  simp only [Exit.inBlock]
  rw [hQ1.out, hQ2.out]
  refine ⟨?_, ⟨?_, ?_⟩, ⟨?_, ?_, ?_, ?_⟩, ?_⟩
  ·exact (((KeepsOthers.drewN W _).trans (KeepsOthers.setCell _ _ _)).trans (KeepsOthers.setCell _ _ _)).from _
  ·exact (below_drewN (Below.refl w.heap.size W) _).setCell (p := ⟨g, i, none⟩) (by show _ <= g; omega) _ |>.setCell (p := ⟨w1.heap.size + 1, 0, none⟩) (by show _ <= w1.heap.size + 1; omega) _
  ·rw [Below.heap_setCell _ _ _ _ (by show w1.heap.size + 1 + 1 ≠ w1.heap.size + 1; omega), Below.heap_setCell _ _ _ _ (by show w1.heap.size + 1 + 1 ≠ g; omega)]; rfl
  ·exact i1'
  ·exact i2'
  ·rw [hst]; exact i3'
  ·rw [hst]; exact i4'
  ·exact (below_drewN hB _).setCell (p := ⟨g, i, none⟩) (by show _ <= g; omega) _ |>.setCell (p := ⟨w1.heap.size + 1, 0, none⟩) (by show _ <= w1.heap.size + 1; omega) _
 case done =>
  rintro D ys W hD rfl ⟨⟨i1, i2, i3, i4⟩, hB⟩ hK
  obtain ⟨l1, l2, l3⟩ := small_law a hlt d hd a.length (Nat.le_refl _)
  have hok := SmOk.all (n := a.length) hd (spots a hlt a.length)
  obtain ⟨s, hs⟩ : ∃ s, s = smAll a.length d ((spots a hlt a.length).map (·.1)) := ⟨_, rfl⟩
  rw [<- hs] at hok i3 i4
  simp only [<- hs, Nat.sub_self, List.drop_zero] at l1 l2 l3
  have hq : val a / d = val s.1 := by
   rw [<- l2, Nat.mul_comm, Nat.mul_add_div hd, Nat.div_eq_of_lt l3, Nat.add_zero]
  have hr : val a % d = s.2 := by
   rw [<- l2, Nat.mul_comm, Nat.mul_add_mod, Nat.mod_eq_of_lt l3]
  have HQ := hide hq; have HR := hide hr
  have c2 := i2.cell (i := 0) (u := .slice (some ⟨g, 0, none⟩) a.length a.length) rfl
  have c3 := i3.cell (i := 0) (u := .int .u32 (s.2 : Int)) rfl
  have HO := hide (show Own32 160 W.drew w.heap.size (.slice (some ⟨g, 0, none⟩) a.length a.length) s.1 from ⟨hok.lt, OwnNums.of_row i4.drew (by omega) hok.len (by unfold maxLen; omega)⟩)
  have HT := hide (trim_calls W.drew _ s.1 HO.out.reads (by rw [hok.len]; omega))
  have HB := hide (hB.drew)
  have hKd : W.drew.heap[D]? = some (.deferred (some [])) := hK
  have HK := hide hKd
  clear hs hok hq hr l1 l2 l3 i1 i2 i3 i4 hB hKd hK
  obtain ⟨r, hr⟩ : ∃ r, r = s.2 := ⟨_, rfl⟩
  rw [<- hr] at c3 HR
  clear hr
  gi_wp2
  rename_i K hK0
  refine wpIn_wide.2 ?_
  go_region_held3 (fun w' => w'.cell? ⟨w1.heap.size, 0, none⟩ = some (.slice (some ⟨g, 0, none⟩) a.length a.length) /\ w'.cell? ⟨w1.heap.size + 1, 0, none⟩ = some (.int .u32 (r : Int))) (first | exact ⟨c2, c3⟩ | exact ⟨bv1.cell c2, bv1.cell c3⟩) (first
   | ((with_reducible refine HT.out.mono ?_); rintro e w2 ⟨v1, rfl, ov1, bv1⟩))
  show K _ _
  refine hK0 _ _ ?_
  refine wpIn_ret ?_
  have hkd : w2.heap[D]? = some (.deferred (some [])) := by
   have hlt : D < W.drew.heap.size := (Array.getElem?_eq_some_iff.1 HK.out).1
   rw [bv1.block D hlt]; exact HK.out
  refine ⟨by simp, .inl ⟨_, _, rfl, run_takeDeferred hkd, ?_⟩⟩
  refine ⟨.tuple #[v1, .int .u32 (r : Int)], by simp [results, Tryz.results179], v1, .int .u32 (r : Int), rfl, ⟨?_, by rw [HR.out]⟩, ?_⟩
  ·rw [HQ.out]
   have h1 := (ov1.weaken (B' := w.heap.size) HB.out.size)
   exact ⟨h1.1, ownsRow_putObj h1.2 _ hkd rfl⟩
  ·refine (HB.out.trans (bv1.mono HB.out.size)).trans ?_
   exact belowK_b (w := w) (Nat.le_refl _) w2 D _ _ (by have := hLW.size; omega) hkd rfl rfl
 case stop =>
  rintro D c pre W _ _ h _
  exact h.elim
theorem small_calls (w : World) (v : Value) (a : List Nat) (d : Nat) (h : U32s w v a) (ha : a.length <= 1000000000) (ha0 : 0 < a.length) (hd : 0 < d) (hdl : d < 4294967296) :
 Calls Tryz.prog 179 #[v, .int .u32 d] w (Ret2 w fun w' q r => Own32 160 w' w.heap.size q (limbs (val a / d)) /\ r = .int .u32 (val a % d : Nat)) :=
 callsIn_wide.1 (small_in w v a d h ha ha0 hd hdl)
end Go.Proofs.YtncbebfhakcgdaaGreat
namespace Go.Proofs.YtncbebfhakcgdaaGreat
open Go.RowKit Go.Shelf
attribute [local go_sem] Oper.semAt_some
theorem limbs_last : ∀ (k n : Nat), (limbs n).length = k -> ∀ x, (limbs n)[k - 1]? = some x -> x ≠ 0 := by
 intro k
 induction k with
 | zero => intro n hn x hx; rw [List.length_eq_zero_iff.1 hn] at hx; simp at hx
 | succ k ih =>
   intro n hn x hx
   by_cases h0 : n = 0
   ·subst h0; rw [limbs_zero] at hn; simp at hn
   ·rw [limbs_pos h0] at hn hx
    simp only [List.length_cons, Nat.add_right_cancel_iff] at hn
    cases k with
    | zero =>
      have h1 := limbs_eq_nil.1 (List.length_eq_zero_iff.1 hn)
      simp at hx
      omega
    | succ k =>
      simp only [Nat.add_sub_cancel, List.getElem?_cons_succ] at hx
      exact ih _ hn x hx
theorem limbs_of_one {n : Nat} (h : (limbs n).length = 1) : limbs n = [n] /\ n < 4294967296 /\ 0 < n := by
 have h0 : n ≠ 0 := by intro e; subst e; rw [limbs_zero] at h; simp at h
 have h1 := h
 rw [limbs_pos h0] at h1
 simp only [List.length_cons] at h1
 have h2 := limbs_eq_nil.1 (List.length_eq_zero_iff.1 (Nat.succ.inj h1))
 have h3 : n < 4294967296 := by omega
 rw [limbs_pos h0, h2, limbs_zero, Nat.mod_eq_of_lt h3]
 exact ⟨rfl, h3, by omega⟩
theorem own_nil (T : TypeId) (w : World) (B : Nat) : Own32 T w B (.slice none 0 0) [] := ⟨AllLt.nil, OwnNums.nil _ _ _ _⟩
set_option maxHeartbeats 1000000 in
theorem div_calls (w : World) (v u : Value) (a b : List Nat) (h : U32s w v a) (h' : U32s w u b) (ha : a.length <= 1000000000) (hb : b.length <= 1000000000) (hpos : 0 < val b) :
 Calls Tryz.prog 168 #[v, u] w (Ret3 w fun w' q r ok => Own32 160 w' w.heap.size q (limbs (val a / val b)) /\ Own32 160 w' w.heap.size r (limbs (val a % val b)) /\ ok = .bool true) := by
 obtain ⟨x, hx⟩ : ∃ x, x = val a := ⟨_, rfl⟩
 obtain ⟨y, hy⟩ : ∃ y, y = val b := ⟨_, rfl⟩
 rw [<- hy] at hpos
 rw [<- hx, <- hy]
 have la := length_limbs_val h.1
 have lb := length_limbs_val h'.1
 rw [<- hx] at la; rw [<- hy] at lb
 have H := hide h; have H' := hide h'; have HVX := hide hx; have HVY := hide hy
 clear hx hy h h'
 go_enter Tryz.func168, Tryz.ntmps168
 go_wp2_with fail
 refine (trim_calls _ _ a H.out (by omega)).mono ?_
 rintro e w1 ⟨v1, rfl, o1, b1⟩
 go_wp2_with fail
 refine (trim_calls _ _ b (H'.out.later b1) (by omega)).mono ?_
 rintro e w2 ⟨v2, rfl, o2, b2⟩
 rw [<- HVX.out] at o1; rw [<- HVY.out] at o2
 have o1' := o1.later b2
 have bb := b1.trans b2
 obtain ⟨n1, hn1⟩ : ∃ n, n = (limbs x).length := ⟨_, rfl⟩
 obtain ⟨n2, hn2⟩ : ∃ n, n = (limbs y).length := ⟨_, rfl⟩
 obtain ⟨A1, c1, f1, hc1, -⟩ := o1'.reads.form
 obtain ⟨A2, c2, f2, hc2, -, -, hcc⟩ := o2.reads.form
 rw [<- hn1] at f1 hc1; rw [<- hn2] at f2 hc2
 subst f1 f2
 have hp2 := length_limbs_pos.2 (Nat.pos_iff_ne_zero.1 hpos)
 rw [<- hn1] at la; rw [<- hn2] at lb hp2
 have HX := hide hn1; have HY := hide hn2
 have t0 : ((n2 : Int) == 0) = false := by simp; omega
 by_cases hlt : n1 < n2
 ·have hxy : x < y := lt_of_length_lt (by rw [<- hn1, <- hn2]; exact hlt)
  have HQ := hide (Nat.div_eq_of_lt hxy); have HR := hide (Nat.mod_eq_of_lt hxy)
  clear hn1 hn2 hc1 hc2 hxy
  have t1 : decide (n1 < n2) = true := by simp; omega
  have t1' : decide ((n1 : Int) < n2) = true := by simp; omega
  go_wp2_with fail
  go_ret3
  refine ⟨_, _, _, rfl, ⟨?_, ?_, rfl⟩, bb⟩
  ·rw [HQ.out, limbs_zero]; exact own_nil _ _ _
  ·rw [HR.out]; exact o1'
 ·have t1 : decide (n1 < n2) = false := by simp; omega
  have t1' : decide ((n1 : Int) < n2) = false := by simp; omega
  by_cases h1 : n2 = 1
  ·subst h1
   have h3 := limbs_of_one hn2.symm
   obtain ⟨h6, h4, h5⟩ := h3
   have HL := hide h6
   rw [h6] at hcc
   obtain ⟨bb2, ob2, rfl, hcc2⟩ := hcc.at_ (k := 0) (by simp [nums])
   have hcl := hcc2 0 (.int .u32 (y : Int)) rfl
   simp only [Nat.add_zero] at hcl
   have HS := small_calls w2 _ (limbs x) y o1'.reads (by rw [<- hn1]; omega) (by rw [<- hn1]; omega) hpos h4
   rw [val_limbs] at HS
   have HS := hide HS
   have h7 : x % y < 4294967296 := Nat.lt_trans (Nat.mod_lt _ hpos) h4
   obtain ⟨m, hm⟩ : ∃ m, m = x % y := ⟨_, rfl⟩
   rw [<- hm] at HS h7
   have HM := hide hm; clear hm
   clear hn1 hn2 hcc hcc2 hc1 hc2
   have t2 : ((1 : Int) == 1) = true := rfl
   go_wp2_with fail
   refine (HS.out).mono ?_
   rintro e w3 ⟨q, r, rfl, ⟨oq, rfl⟩, b3⟩
   go_wp2_with fail
   have hb4 : Later w2 (w3.alloc (Obj.cells #[Value.int IntKind.u32 (m : Int)] 160)) := b3.alloc _
   have hrow := Row.new w3 160 (nums .u32 [m])
   have hu : U32s (w3.alloc (Obj.cells #[Value.int IntKind.u32 (m : Int)] 160)) (.slice (some ⟨w3.heap.size, 0, none⟩) 1 1) [m] :=
    ⟨AllLt.cons h7 AllLt.nil, (OwnNums.of_row (B := 0) hrow (Nat.zero_le _) rfl (by simp [maxLen])).reads⟩
   refine (trim_calls _ _ [m] hu (by simp)).mono ?_
   rintro e w4 ⟨v4, rfl, o4, b4⟩
   go_wp2_with fail
   go_ret3
   have hm0 : val [m] = m := by simp
   rw [hm0, HM.out] at o4
   have hs3 := b3.size
   have hsb := bb.size
   refine ⟨_, _, _, rfl, ⟨(oq.weaken hsb).later (((Later.refl w3).alloc _).trans b4), o4.weaken ?_, rfl⟩, (bb.trans hb4).trans b4⟩
   simp; omega
  ·have t2 : ((n2 : Int) == 1) = false := by simp; omega
   have HS := hide (long_calls w2 _ _ (limbs x) (limbs y) o1'.reads o2.reads (by rw [<- hn1]; omega) (by rw [<- hn2]; omega) (by rw [<- hn1, <- hn2]; omega) (limbs_last _ _ rfl))
   clear hn1 hn2 hcc hc1 hc2
   go_wp2_with fail
   refine (HS.out).mono ?_
   rintro e w3 ⟨q, r, rfl, ⟨oq, or⟩, b3⟩
   go_wp2_with fail
   go_ret3
   rw [val_limbs, val_limbs] at oq or
   exact ⟨_, _, _, rfl, ⟨oq.weaken bb.size, or.weaken bb.size, rfl⟩, bb.trans b3⟩
theorem U32s.unique {w : World} {v : Value} {l m : List Nat} (h : U32s w v l) (k : U32s w v m) : l = m := by
 obtain ⟨A, c, rfl, -, -, -, hc⟩ := h.form
 obtain ⟨A', c', e, -, -, -, kc⟩ := k.form
 injection e with e1 e2 e3
 subst e1
 have hl : l.length = m.length := by omega
 apply List.ext_getElem hl
 intro i h1 h2
 obtain ⟨b, off, rfl, hx⟩ := hc.at_ (k := 0) (by rw [length_nums]; omega)
 obtain ⟨b', off', e, kx⟩ := kc.at_ (k := 0) (by rw [length_nums]; omega)
 injection e with e; injection e with e4 e5; subst e4 e5
 have a1 := hx i _ (nums_get (List.getElem?_eq_getElem h1))
 have a2 := kx i _ (nums_get (List.getElem?_eq_getElem h2))
 rw [a1] at a2
 injection a2 with a2; injection a2 with _ a3
 omega
noncomputable def natOf (v : Value) (w : World) : Nat := Classical.epsilon (fun n => ∃ l, U32s w v l /\ val l = n)
theorem natOf_eq {w : World} {v : Value} {l : List Nat} (h : U32s w v l) : natOf v w = val l := by
 have := Classical.epsilon_spec (p := fun n => ∃ l, U32s w v l /\ val l = n) ⟨val l, l, h, rfl⟩
 obtain ⟨m, hm, e⟩ := this
 rw [natOf, <- e, h.unique hm]
def GcdRel (w : World) (g : Nat) (va vb : Value) (w' : World) : Prop :=
 ∃ x y : Nat, Own32 160 w' w.heap.size va (limbs x) /\ Own32 160 w' w.heap.size vb (limbs y) /\ Nat.gcd x y = g /\ (limbs x).length <= 1000000000 /\ (limbs y).length <= 1000000000 /\ Later w w'
set_option maxHeartbeats 1000000 in
theorem gcd_calls (w : World) (v u : Value) (a b : List Nat) (h : U32s w v a) (h' : U32s w u b) (ha : a.length <= 1000000000) (hb : b.length <= 1000000000) :
 Calls Tryz.prog 166 #[v, u] w (Ret w fun w' g => Own32 160 w' w.heap.size g (limbs (Nat.gcd (val a) (val b)))) := by
 obtain ⟨g, hg⟩ : ∃ g, g = Nat.gcd (val a) (val b) := ⟨_, rfl⟩
 rw [<- hg]
 have la := length_limbs_val h.1
 have lb := length_limbs_val h'.1
 have H := hide h; have H' := hide h'; have HG := hide hg
 clear hg h h'
 go_enter Tryz.func166, Tryz.ntmps166
 go_wp2_with fail
 refine (trim_calls _ _ a H.out (by omega)).mono ?_
 rintro e w1 ⟨v1, rfl, o1, b1⟩
 go_wp2_with fail
 refine (trim_calls _ _ b (H'.out.later b1) (by omega)).mono ?_
 rintro e w2 ⟨v2, rfl, o2, b2⟩
 have HR := hide (show GcdRel w g v1 v2 w2 from ⟨val a, val b, o1.later b2, o2.weaken b1.size, HG.out.symm, by omega, by omega, b1.trans b2⟩)
 clear o1 o2 b1 b2 la lb
 go_wp2_with fail
 go_loopw [0, 1] (fun va vb w' => GcdRel w g va vb w') (fun _ vb w' => natOf vb w')
 case atStart => exact HR.out
 case round =>
  obtain ⟨x, y, ox, oy, hgc, hx, hy, hbl⟩ := hrel
  obtain ⟨A1, c1, f1, hc1, -⟩ := ox.reads.form
  obtain ⟨A2, c2, f2, hc2, -⟩ := oy.reads.form
  obtain ⟨n1, hn1⟩ : ∃ n, n = (limbs x).length := ⟨_, rfl⟩
  obtain ⟨n2, hn2⟩ : ∃ n, n = (limbs y).length := ⟨_, rfl⟩
  rw [<- hn1] at f1 hc1; rw [<- hn2] at f2 hc2
  subst f1 f2
  by_cases h0 : y = 0
  ·subst h0
   rw [limbs_zero] at hn2
   simp only [List.length_nil] at hn2
   subst hn2
   rw [Nat.gcd_zero_right] at hgc
   subst hgc
   clear hc1 hc2 hn1 oy
   go_wp2_with fail
   go_ret
   exact ⟨_, rfl, ox, hbl⟩
  ·have hp := length_limbs_pos.2 h0
   rw [<- hn2] at hp
   have hD := hide (div_calls wr _ _ (limbs x) (limbs y) ox.reads oy.reads (by omega) (by omega) (by rw [val_limbs]; omega))
   have t0 : decide (0 < n2) = true := by simp; omega
   have t1 : decide ((0 : Int) < (n2 : Int)) = true := by simp; omega
   have HC := hide hgc; have HN1 := hide hn1; have HN2 := hide hn2
   have HE := hide (natOf_eq oy.reads)
   have hy' := hy
   clear hc1 hc2 hn1 hn2 hp hgc hx hy
   go_wp2_with fail
   refine hD.out.mono ?_
   rintro e w3 ⟨q, r, ok, rfl, ⟨oq, or, rfl⟩, b3⟩
   go_wp2_with fail
   go_roundw
   case rel =>
    rw [val_limbs, val_limbs] at or
    refine ⟨y, x % y, oy.later b3, or.weaken hbl.size, ?_, hy', ?_, hbl.trans b3⟩
    ·rw [<- HC.out, Nat.gcd_comm y, <- Nat.gcd_rec, Nat.gcd_comm]
    ·exact Nat.le_trans (length_limbs_mono (Nat.le_of_lt (Nat.mod_lt x (Nat.pos_of_ne_zero h0)))) hy'
   case measure =>
    show natOf r w3 < natOf _ wr
    rw [natOf_eq or.reads, HE.out]; simp only [val_limbs]
    exact Nat.mod_lt _ (Nat.pos_of_ne_zero h0)
end Go.Proofs.YtncbebfhakcgdaaGreat
namespace Go.Proofs.YtncbebfhakcgdaaGreat
open Go.RowKit Go.Shelf
def sgn (neg : Bool) (n : Nat) : Int := if neg then -(n : Int) else n
def RawI (w : World) (v : Value) (z : Int) (k : Nat) : Prop := ∃ neg A n c l, v = .agg #[.bool neg, .slice A n c] /\ U32s w (.slice A n c) l /\ z = sgn neg (val l) /\ l.length <= k
def OwnI (w : World) (B : Nat) (v : Value) (z : Int) : Prop := ∃ A n c, v = .agg #[.bool (decide (z < 0)), .slice A n c] /\ Own32 160 w B (.slice A n c) (limbs z.natAbs)
theorem RawI.later {w w' : World} {v : Value} {z : Int} {k : Nat} (h : RawI w v z k) (hb : Later w w') : RawI w' v z k := by
 obtain ⟨n, A, m, c, l, e, h, e', hk⟩ := h; exact ⟨n, A, m, c, l, e, h.later hb, e', hk⟩
theorem OwnI.later {w w' : World} {B : Nat} {v : Value} {z : Int} (h : OwnI w B v z) (hb : Later w w') : OwnI w' B v z := by
 obtain ⟨A, n, c, e, h⟩ := h; exact ⟨A, n, c, e, h.later hb⟩
theorem OwnI.weaken {w : World} {B C : Nat} {v : Value} {z : Int} (h : OwnI w B v z) (hC : C <= B) : OwnI w C v z := by
 obtain ⟨A, n, c, e, h⟩ := h; exact ⟨A, n, c, e, h.weaken hC⟩
theorem sgn_self (z : Int) : sgn (decide (z < 0)) z.natAbs = z := by
 unfold sgn; split <;> rename_i h <;> simp at h <;> omega
theorem natAbs_sgn (b : Bool) (n : Nat) : (sgn b n).natAbs = n := by
 unfold sgn; split <;> omega
theorem neg_sgn (b : Bool) (n : Nat) : decide (sgn b n < 0) = (b && decide (0 < n)) := by
 unfold sgn; cases b <;> simp <;> omega
theorem OwnI.raw {w : World} {B : Nat} {v : Value} {z : Int} {k : Nat} (h : OwnI w B v z) (hk : (limbs z.natAbs).length <= k) : RawI w v z k := by
 obtain ⟨A, n, c, e, h⟩ := h; exact ⟨_, A, n, c, _, e, h.reads, by rw [val_limbs, sgn_self], hk⟩
theorem RawI.mono {w : World} {v : Value} {z : Int} {k m : Nat} (h : RawI w v z k) (hm : k <= m) : RawI w v z m := by
 obtain ⟨n, A, m, c, l, e, h, e', hk⟩ := h; exact ⟨n, A, m, c, l, e, h, e', Nat.le_trans hk hm⟩
theorem results_int {fn : Func} {t : Tmp} {tmps : Array Value} {W : World} {b : Nat} {x y : Value} (h : fn.results = #[.cell t 65]) (hp : tmps[t]?.getD undef = .pointer (some ⟨b, 0, none⟩)) (hr : Row W b 65 [x, y]) :
 (results fn tmps).run Tryz.prog W = .ok (.agg #[x, y]) W := by
 have c0 := hr.cell (i := 0) rfl
 have c1 := hr.cell (i := 1) rfl
 simp [results, h, hp, go_sem, c0, c1]
theorem Row.two {W : World} {g : Nat} {t : TypeId} {a b : Value} (h : Row W g t [a, b]) (x y : Value) : Row ((W.setCell ⟨g, 0, none⟩ x).setCell ⟨g, 1, none⟩ y) g t [x, y] :=
 (h.set_ 0 x).set_ 1 y
theorem Later.two {a w : World} (h : Later a w) {g : Nat} (hg : a.heap.size <= g) (x y : Value) : Later a ((w.setCell ⟨g, 0, none⟩ x).setCell ⟨g, 1, none⟩ y) :=
 (h.setCell (p := ⟨g, 0, none⟩) hg x).setCell (p := ⟨g, 1, none⟩) hg y
theorem Own32.far {T : TypeId} {w : World} {B : Nat} {v : Value} {l : List Nat} (h : Own32 T w B v l) {p : Addr} (hp : p.block < B) (u : Value) : Own32 T (w.setCell p u) B v l := by
 refine ⟨h.1, World.ownsRow.kept h.2 (only_setCell (World.grownBy.refl w (some p.block)) (.inl rfl) u) ?_⟩
 cases hv : v.ownBlock with
 | none => exact .inl rfl
 | some k =>
   have := own_ge h k hv
   exact .inr fun e => by injection e with e; omega
theorem OwnI.two {w : World} {B : Nat} {v : Value} {z : Int} (h : OwnI w B v z) {g : Nat} (hg : g < B) (x y : Value) : OwnI ((w.setCell ⟨g, 0, none⟩ x).setCell ⟨g, 1, none⟩ y) B v z := by
 obtain ⟨A, n, c, e, h⟩ := h; exact ⟨A, n, c, e, (h.far (p := ⟨g, 0, none⟩) hg x).far (p := ⟨g, 1, none⟩) hg y⟩
set_option maxHeartbeats 1000000 in
theorem of_calls (w : World) (neg : Bool) (s : Value) (l : List Nat) (h : U32s w s l) (hl : l.length <= 2000000000) :
 Calls Tryz.prog 145 #[.bool neg, s] w (Ret w fun w' v => OwnI w' w.heap.size v (sgn neg (val l))) := by
 obtain ⟨x, hx⟩ : ∃ x, x = val l := ⟨_, rfl⟩
 rw [<- hx]
 have H := hide h; have HX := hide hx
 clear h hx
 go_enter Tryz.func145, Tryz.ntmps145
 go_wp2_with fail
 refine (trim_calls _ _ l (H.out.later ((Later.refl w).alloc _)) hl).mono ?_
 rintro e w1 ⟨v1, rfl, o1, b1⟩
 rw [<- HX.out] at o1
 obtain ⟨A1, c1, f1, hc1, -⟩ := o1.reads.form
 obtain ⟨n1, hn1⟩ : ∃ n, n = (limbs x).length := ⟨_, rfl⟩
 rw [<- hn1] at f1
 subst f1
 have hrow := (Row.new w 65 [.bool false, .slice none 0 0]).later b1
 have c0 := hrow.cell (i := 0) (u := .bool false) rfl
 have c1' := hrow.cell (i := 1) (u := .slice none 0 0) rfl
 have f0 := hrow.frozen 0
 have f1 := hrow.frozen 1
 have HN := hide hn1
 have hL := ((Later.refl w).alloc (.cells #[.bool false, .slice none 0 0] 65)).trans b1
 have hpos : decide (0 < n1) = decide (0 < x) := by
  rw [hn1]; by_cases h0 : x = 0
  ·subst h0; rw [limbs_zero]; rfl
  ·have := length_limbs_pos.2 h0; simp; omega
 have HPOS := hide hpos
 clear hn1 hc1 hpos
 cases neg
 all_goals
  go_wp2_with fail
  refine bodyPost_ret (results_int rfl rfl (hrow.two _ _)) rfl ?_
  refine ⟨_, rfl, ⟨A1, n1, c1, ?_, ?_⟩, hL.two (Nat.le_refl _) _ _⟩
  ·rw [neg_sgn]; first | rfl | (rw [<- HPOS.out]; simp)
  ·rw [natAbs_sgn]; exact ((o1.far (p := ⟨w.heap.size, 0, none⟩) (by simp) _).far (p := ⟨w.heap.size, 1, none⟩) (by simp) _).weaken (by simp)
set_option maxHeartbeats 1000000 in
theorem plain_calls (w : World) (v : Value) (z : Int) (k : Nat) (h : RawI w v z k) (hk : k <= 2000000000) :
 Calls Tryz.prog 122 #[v] w (Ret w fun w' v => OwnI w' w.heap.size v z) := by
 obtain ⟨neg, A, n, c, l, rfl, hu, hz, hl⟩ := h
 have HZ := hide hz; clear hz
 go_enter Tryz.func122, Tryz.ntmps122
 go_wp2_with fail
 have hb0 : Later w ((w.alloc (Obj.cells #[Value.bool neg, Value.slice A n c] 65)).alloc (Obj.cells #[Value.bool false, Value.slice none 0 0] 65)) := ((Later.refl w).alloc _).alloc _
 refine (of_calls _ neg _ l (hu.later hb0) (by omega)).mono ?_
 rintro e w1 ⟨v1, rfl, o1, b1⟩
 rw [<- HZ.out] at o1
 have hrow := Row.new (w.alloc (Obj.cells #[Value.bool neg, Value.slice A n c] 65)) 65 [.bool false, .slice none 0 0]
 rw [World.size_alloc] at hrow
 have hrow := hrow.later b1
 have c0 := hrow.cell (i := 0) (u := .bool false) rfl
 have c1 := hrow.cell (i := 1) (u := .slice none 0 0) rfl
 have f0 := hrow.frozen 0
 have f1 := hrow.frozen 1
 have hL := hb0.trans b1
 clear hb0
 obtain ⟨A1, n1, c1', rfl, o2⟩ := o1
 have HO := hide o2; clear o2
 go_wp2_with fail
 refine bodyPost_ret (results_int rfl rfl (hrow.two _ _)) rfl ?_
 refine ⟨_, rfl, ?_, hL.two (by omega) _ _⟩
 exact (OwnI.two ⟨A1, n1, c1', rfl, HO.out⟩ (by simp) _ _).weaken (by simp; omega)
end Go.Proofs.YtncbebfhakcgdaaGreat
