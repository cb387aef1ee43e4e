/- Fractions: by. -/
import Derived.Test.YtncbebfhakcgdaaGreatC4
import Derived.Test.YtncbebfhakcgdaaGreatC1
import Derived.Laws.AppendOwnNone
import Derived.Maps.AppendAt
set_option linter.unusedVariables false
set_option linter.unusedSimpArgs false
set_option maxRecDepth 100000
namespace Go.Proofs.YtncbebfhakcgdaaGreat
open Go.RowKit Go.Shelf
attribute [local go_sem ↓] Go.wp_at_zero Go.wp_at_succ
theorem by_law {x y : Int} (hy : 0 < y) {q : Rat} (hq : q = mkRat x y.toNat) {g : Nat} (hg : g = Nat.gcd x.natAbs y.natAbs) :
 sgn (decide (x < 0)) (x.natAbs / g) = q.num /\ sgn (decide (y < 0)) (y.natAbs / g) = (q.den : Int) /\ 0 < g := by
 have hn : y.natAbs = y.toNat := by omega
 have h0 : y.toNat ≠ 0 := by omega
 rw [hn] at hg ⊢
 have hgp : 0 < g := by rw [hg]; exact Nat.gcd_pos_of_pos_right _ (by omega)
 rw [hq, Rat.mkRat_def, dif_neg h0, Rat.num_normalize, Rat.den_normalize, <- hg]
 refine ⟨?_, ?_, hgp⟩
 ·obtain ⟨c, hc⟩ : g ∣ x.natAbs := by rw [hg]; exact Nat.gcd_dvd_left _ _
  rw [hc, Nat.mul_div_cancel_left _ hgp]
  by_cases hx : x < 0
  ·have : x = -((g : Int) * (c : Int)) := by have : (x.natAbs : Int) = (g : Int) * c := by rw [hc]; simp
                                             omega
   rw [show decide (x < 0) = true by simpa using hx, this, <- Int.mul_neg, Int.mul_ediv_cancel_left _ (by omega)]
   rfl
  ·have : x = ((g : Int) * (c : Int)) := by have : (x.natAbs : Int) = (g : Int) * c := by rw [hc]; simp
                                            omega
   rw [show decide (x < 0) = false by simpa using hx, this, Int.mul_ediv_cancel_left _ (by omega)]
   rfl
 ·rw [show decide (y < 0) = false by simp; omega]; rfl
theorem mkRat_one (x : Int) : (mkRat x 1).num = x /\ (mkRat x 1).den = 1 := by
 rw [Rat.mkRat_def, dif_neg (by omega), Rat.num_normalize, Rat.den_normalize]
 simp
def ByAt (w : World) (x y : Int) (wx : World) : Prop :=
 ∃ s A n c s' A' n' c', Row wx w.heap.size 65 [.bool s, .slice A n c] /\ Row wx (w.heap.size + 1) 65 [.bool s', .slice A' n' c'] /\
   Row wx (w.heap.size + 2) 67 [.bool false, .slice none 0 0, .bool false, .slice none 0 0] /\ OwnI wx (w.heap.size + 3) (.agg #[.bool s, .slice A n c]) x /\
   OwnI wx (w.heap.size + 3) (.agg #[.bool s', .slice A' n' c']) y /\ Later w wx /\ w.heap.size + 3 <= wx.heap.size
def ByPos (w : World) (k : Nat) (q : Rat) (wx : World) : Prop :=
 ∃ x y, 0 < y /\ q = mkRat x y.toNat /\ (limbs x.natAbs).length <= k /\ (limbs y.natAbs).length <= k /\ ByAt w x y wx
theorem by_stores {w W : World} {x y : Int} {s s' : Bool} {A A' : Option Addr} {n c n' c' : Nat} {a b a' b' : Value}
 (ra : Row W w.heap.size 65 [a, b]) (rb : Row W (w.heap.size + 1) 65 [a', b']) (rc : Row W (w.heap.size + 2) 67 [.bool false, .slice none 0 0, .bool false, .slice none 0 0])
 (ox : OwnI W (w.heap.size + 3) (.agg #[.bool s, .slice A n c]) x) (oy : OwnI W (w.heap.size + 3) (.agg #[.bool s', .slice A' n' c']) y) (hL : Later w W) (hs : w.heap.size + 3 <= W.heap.size) :
 ByAt w x y ((((W.setCell ⟨w.heap.size, 0, none⟩ (.bool s)).setCell ⟨w.heap.size, 1, none⟩ (.slice A n c)).setCell ⟨w.heap.size + 1, 0, none⟩ (.bool s')).setCell ⟨w.heap.size + 1, 1, none⟩ (.slice A' n' c')) /\
 ByAt w x y ((((W.setCell ⟨w.heap.size + 1, 0, none⟩ (.bool s')).setCell ⟨w.heap.size + 1, 1, none⟩ (.slice A' n' c')).setCell ⟨w.heap.size, 0, none⟩ (.bool s)).setCell ⟨w.heap.size, 1, none⟩ (.slice A n c)) := by
 constructor
 ·have o1 := Only.two w.heap.size W (.bool s) (.slice A n c)
  have r1 := ra.two (.bool s) (.slice A n c)
  obtain ⟨V, hV⟩ : ∃ V, V = (W.setCell ⟨w.heap.size, 0, none⟩ (.bool s)).setCell ⟨w.heap.size, 1, none⟩ (.slice A n c) := ⟨_, rfl⟩
  rw [<- hV] at o1 r1 ⊢
  have o2 := Only.two (w.heap.size + 1) V (.bool s') (.slice A' n' c')
  exact ⟨s, A, n, c, s', A', n', c', r1.only o2 (by omega), (rb.only o1 (by omega)).two _ _, (rc.only o1 (by omega)).only o2 (by omega), (ox.only o1 (by omega)).only o2 (by omega), (oy.only o1 (by omega)).only o2 (by omega), (hL.only o1 (by omega)).only o2 (by omega), by rw [o2.size, o1.size]; exact hs⟩
 ·have o1 := Only.two (w.heap.size + 1) W (.bool s') (.slice A' n' c')
  have r1 := rb.two (.bool s') (.slice A' n' c')
  obtain ⟨V, hV⟩ : ∃ V, V = (W.setCell ⟨w.heap.size + 1, 0, none⟩ (.bool s')).setCell ⟨w.heap.size + 1, 1, none⟩ (.slice A' n' c') := ⟨_, rfl⟩
  rw [<- hV] at o1 r1 ⊢
  have o2 := Only.two w.heap.size V (.bool s) (.slice A n c)
  exact ⟨s, A, n, c, s', A', n', c', (ra.only o1 (by omega)).two _ _, r1.only o2 (by omega), (rc.only o1 (by omega)).only o2 (by omega), (ox.only o1 (by omega)).only o2 (by omega), (oy.only o1 (by omega)).only o2 (by omega), (hL.only o1 (by omega)).only o2 (by omega), by rw [o2.size, o1.size]; exact hs⟩
theorem rawI_zero (w : World) (k : Nat) : RawI w (.agg #[.bool false, .slice none 0 0]) 0 k := ⟨false, none, 0, 0, [], rfl, U32s.nil w, rfl, Nat.zero_le _⟩
theorem divInt_neg_pos {x y : Int} (hy : y < 0) : Rat.divInt x y = mkRat (0 - x) (0 - y).toNat := by
 have h : y = -((0 - y).toNat : Int) := by omega
 conv => lhs; rw [h]
 obtain ⟨m, hm⟩ : ∃ m, (0 - y).toNat = m + 1 := ⟨(0 - y).toNat - 1, by omega⟩
 rw [hm, Int.zero_sub]; rfl
theorem divInt_pos {x y : Int} (hy : 0 < y) : Rat.divInt x y = mkRat x y.toNat := by
 have h : y = (y.toNat : Int) := by omega
 conv => lhs; rw [h]
 rfl
set_option maxHeartbeats 4000000 in
theorem by_calls (w : World) (va vb : Value) (x y : Int) (k : Nat) (hx : RawI w va x k) (hy : RawI w vb y k) (hk : k <= 400000000) (hy0 : y ≠ 0) (q : Rat) (hq : q = Rat.divInt x y) :
 Calls Tryz.prog 147 #[va, vb] w (Ret w fun w' v => OwnR w' w.heap.size v q) := by
 have hlx := hx.limbs_le
 have hly := hy.limbs_le
 have HX := hide hx; have HY := hide hy; have HQ := hide hq
 obtain ⟨n1, A1, m1, c1, rfl⟩ := hx.open_
 obtain ⟨n2, A2, m2, c2, rfl⟩ := hy.open_
 clear hx hy hq
 go_enter Tryz.func147, Tryz.ntmps147
 go_upto_region 1 with fail
 go_cut [] (fun wx => ByAt w x y wx)
 case first =>
  obtain ⟨W0, hW0⟩ : ∃ W0, W0 = (((w.alloc (Obj.cells #[Value.bool n1, Value.slice A1 m1 c1] 65)).alloc (Obj.cells #[Value.bool n2, Value.slice A2 m2 c2] 65)).alloc (Obj.cells #[Value.bool false, Value.slice none 0 0, Value.bool false, Value.slice none 0 0] 67)) := ⟨_, rfl⟩
  obtain ⟨hb0, r1, r2, r3, hsz⟩ := boxes3 w [.bool n1, .slice A1 m1 c1] [.bool n2, .slice A2 m2 c2] [.bool false, .slice none 0 0, .bool false, .slice none 0 0] 65 65 67 hW0
  rw [<- hW0]
  have hb0 := hb0.drew; have r1 := r1.drew; have r2 := r2.drew; have r3 := r3.drew
  obtain ⟨d1, d2, d3, d4⟩ := row_cells2 r1
  obtain ⟨d5, d6, d7, d8⟩ := row_cells2 r2
  have hsz : W0.drew.heap.size = w.heap.size + 3 := hsz
  have R1 := hide r1; have R2 := hide r2; have R3 := hide r3; have B0 := hide hb0
  clear hW0 r1 r2 r3 hb0
  go_region_with (first
   | ((with_reducible refine (plain_calls _ _ x k (HX.out.later B0.out) (by omega)).mono ?_); rintro e w1 ⟨v1, rfl, o1, b1⟩; obtain ⟨s1, P1, q1, e1, rfl, o1⟩ := o1.open_; have O1 := hide o1; clear o1; obtain ⟨i1, i2, i3, i4⟩ := row_cells2 (R1.out.later b1); obtain ⟨i5, i6, i7, i8⟩ := row_cells2 (R2.out.later b1))
   | ((with_reducible refine (plain_calls _ _ y k (HY.out.later (B0.out.trans b1)) (by omega)).mono ?_); rintro e w2 ⟨v2, rfl, o2, b2⟩; obtain ⟨s2, P2, q2, e2, rfl, o2⟩ := o2.open_; have O2 := hide o2; clear o2; obtain ⟨g1, g2, g3, g4⟩ := row_cells2 (R1.out.later (b1.trans b2)); obtain ⟨g5, g6, g7, g8⟩ := row_cells2 (R2.out.later (b1.trans b2))))
  all_goals
   have hb := b1.trans b2
   have hs1 := b1.size
   have hs2 := hb.size
   have hS := by_stores (R1.out.later hb) (R2.out.later hb) (R3.out.later hb) ((O1.out.later b2).weaken (by omega)) (O2.out.weaken (by omega)) (B0.out.trans hb) (by omega)
   have HS := hide hS
   clear hS
   go_wp2_with fail
   go_meet
   first | exact HS.out.1 | exact HS.out.2
 case rest =>
  obtain ⟨s, A, n, c, s', A', n', c', r1, r2, r3, ox, oy, hL, hsz⟩ := hcut
  obtain ⟨d1, d2, d3, d4⟩ := row_cells2 r1
  obtain ⟨d5, d6, d7, d8⟩ := row_cells2 r2
  have R1 := hide r1; have R2 := hide r2; have R3 := hide r3; have OX := hide ox; have OY := hide oy
  have HS := hide oy.sign
  clear HX HY r1 r2 r3 ox oy
  go_upto_if 12 with fail
  go_cut [] (fun wx => ByPos w (k+1) q wx)
  case first =>
   by_cases hneg : y < 0
   ·have hs' : s' = true := by rw [HS.out]; simpa using hneg
    subst hs'
    have hrx := hide (OX.out.raw hlx); have hry := hide (OY.out.raw hly)
    have D0 := hide ((Later.refl wc).drew)
    have r1 := R1.out.drew; have r2 := R2.out.drew
    have R1d := hide r1; have R2d := hide r2
    obtain ⟨p1, p2, p3, p4⟩ := row_cells2 r1
    obtain ⟨p5, p6, p7, p8⟩ := row_cells2 r2
    have hszd : w.heap.size + 3 <= wc.drew.heap.size := hsz
    clear r1 r2
    go_wp2_with fail
    go_region_with (first
     | ((with_reducible refine (wsub_calls _ _ _ 0 x 0 k (rawI_zero _ _) (hrx.out.later D0.out) (by omega) (by omega)).mono ?_); rintro e w1 ⟨v1, rfl, o1, b1⟩; obtain ⟨s1, P1, q1, e1, rfl, o1⟩ := o1.open_; have O1 := hide o1; clear o1; obtain ⟨i1, i2, i3, i4⟩ := row_cells2 (R1d.out.later b1); obtain ⟨i5, i6, i7, i8⟩ := row_cells2 (R2d.out.later b1))
     | ((with_reducible refine (wsub_calls _ _ _ 0 y 0 k (rawI_zero _ _) (hry.out.later (D0.out.trans b1)) (by omega) (by omega)).mono ?_); rintro e w2 ⟨v2, rfl, o2, b2⟩; obtain ⟨s2, P2, q2, e2, rfl, o2⟩ := o2.open_; have O2 := hide o2; clear o2; obtain ⟨g1, g2, g3, g4⟩ := row_cells2 (R1d.out.later (b1.trans b2)); obtain ⟨g5, g6, g7, g8⟩ := row_cells2 (R2d.out.later (b1.trans b2))))
    all_goals
     have hb := b1.trans b2
     have hs1 := b1.size
     have hs2 := hb.size
     have hS := by_stores (R1d.out.later hb) (R2d.out.later hb) (R3.out.drew.later hb) ((O1.out.later b2).weaken (by omega)) (O2.out.weaken (by omega)) (hL.drew.trans hb) (by omega)
     have HS := hide hS
     have hP : ∀ wx, ByAt w (0 - x) (0 - y) wx -> ByPos w (k+1) q wx := fun wx h => ⟨0 - x, 0 - y, by omega, by rw [HQ.out, divInt_neg_pos hneg], by rw [Int.zero_sub, Int.natAbs_neg]; omega, by rw [Int.zero_sub, Int.natAbs_neg]; omega, h⟩
     have HP := hide hP
     clear hS hP
     go_wp2_with fail
     go_meet
     first | exact HP.out _ HS.out.1 | exact HP.out _ HS.out.2
   ·have hs' : s' = false := by rw [HS.out]; simpa using hneg
    subst hs'
    go_wp2_with fail
    go_meet
    exact ⟨x, y, by omega, by rw [HQ.out, divInt_pos (by omega)], by omega, by omega, ⟨_, _, _, _, _, _, _, _, R1.out, R2.out, R3.out, OX.out, OY.out, hL, hsz⟩⟩
  case rest =>
   clear R1 R2 R3 OX OY HS HQ d1 d2 d3 d4 d5 d6 d7 d8 hlx hly hy0 hL hsz
   obtain ⟨x', y', hpos, hq, hlx, hly, s, A, n, c, s', A', n', c', r1, r2, r3, ox, oy, hL, hsz⟩ := hcut
   have hs' : s' = false := by rw [oy.sign]; simp; omega
   subst hs'
   obtain ⟨d1, d2, d3, d4⟩ := row_cells2 r1
   obtain ⟨d5, d6, d7, d8⟩ := row_cells2 r2
   obtain ⟨d9, d10, d11, d12, d13, d14, d15, d16⟩ := row_cells4 r3
   have R1 := hide r1; have R2 := hide r2; have R3 := hide r3; have OX := hide ox; have OY := hide oy; have HQ := hide hq
   have HN := hide oy.len
   clear r1 r2 r3 ox oy hq
   obtain ⟨one, hone⟩ : ∃ b : Bool, b = decide (y' = 1) := ⟨_, rfl⟩
   have HONE := hide hone
   clear hone
   go_upto_region 4 with fail
   go_cut [29] (fun t wx => t = .bool one /\ wx = wc)
   case first =>
    by_cases h1 : n' = 1
    ·subst h1
     obtain ⟨h6, h4, h5⟩ := limbs_of_one HN.out.symm
     obtain ⟨A3, c3, f3, -, -, -, hcc⟩ := OY.out.own.reads.form
     injection f3 with f4 f5 f6
     subst f4 f6
     rw [h6] at hcc
     obtain ⟨b2, ob2, rfl, hcc2⟩ := hcc.at_ (k := 0) (by simp [nums])
     have hcl := hcc2 0 (.int .u32 (y'.natAbs : Int)) rfl
     simp only [Nat.add_zero] at hcl
     clear hcc hcc2 f5 h6
     have ht : (((y'.natAbs : Nat) : Int) == 1) = one := by rw [HONE.out, Bool.eq_iff_iff]; simp; omega
     have HT := hide ht
     clear ht
     go_wp2_with fail
     go_meet
     exact ⟨by rw [HT.out], rfl⟩
    ·have t1 : ((n' : Int) == 1) = false := by simp; omega
     have ht : one = false := by
      rw [HONE.out]; simp; intro e; apply h1; rw [HN.out, e]; show (limbs 1).length = 1; rw [limbs_pos (by omega), limbs_zero]; rfl
     have HT := hide ht
     clear ht
     go_wp2_with fail
     go_meet
     exact ⟨by rw [HT.out], rfl⟩
   case rest =>
    obtain ⟨rfl, rfl⟩ := hcut
    cases one
    case true =>
     have hy1 : y' = 1 := by have := HONE.out; simpa using this.symm
     have h9 : q.num = x' /\ q.den = 1 := by
      rw [HQ.out, hy1]; exact mkRat_one x'
     have H9 := hide h9
     clear h9 hy1
     go_wp2_with fail
     refine bodyPost_ret (results_rat rfl rfl (R3.out.four _ _ _ _)) rfl ?_
     have oo := Only.four (w.heap.size + 2) wc (.bool s) (.slice A n c) (.bool false) (.slice A' n' c')
     refine ⟨_, rfl, OwnR.weaken (OwnR.mk_ ?_ ?_) (by omega : w.heap.size <= w.heap.size + 3), hL.only oo (by omega)⟩
     ·rw [H9.out.1]; exact OX.out.only oo (by omega)
     ·rw [H9.out.2]
      have e1 : y'.natAbs = 1 := by have := HONE.out; simp at this; omega
      have := (OY.out.only oo (by omega)).own
      rw [e1] at this; exact this
    case false =>
     have hrx := hide (OX.out.raw hlx); have hry := hide (OY.out.raw hly)
     go_wp2_with fail
     refine (gcd_calls _ _ _ _ _ OX.out.own.reads OY.out.own.reads (by omega) (by omega)).mono ?_
     rintro e w1 ⟨gv, rfl, og, b1⟩
     rw [val_limbs, val_limbs] at og
     obtain ⟨g, hg⟩ : ∃ g, g = Nat.gcd x'.natAbs y'.natAbs := ⟨_, rfl⟩
     rw [<- hg] at og
     obtain ⟨z1, z2, hgp⟩ := by_law hpos HQ.out hg
     have hgl : (limbs g).length <= k + 1 := Nat.le_trans (length_limbs_mono (by rw [hg]; exact Nat.gcd_le_right _ (by omega))) hly
     obtain ⟨G, g1, g2, rfl⟩ : ∃ Q q3 q4, gv = .slice Q q3 q4 := by
      obtain ⟨Q, cq, e, -⟩ := og.reads.form; exact ⟨Q, _, cq, e⟩
     clear d1 d2 d3 d4 d5 d6 d7 d8 d9 d10 d11 d12 d13 d14 d15 d16
     obtain ⟨d1, d2, d3, d4⟩ := row_cells2 (R1.out.later b1)
     obtain ⟨d5, d6, d7, d8⟩ := row_cells2 (R2.out.later b1)
     obtain ⟨d9, d10, d11, d12, d13, d14, d15, d16⟩ := row_cells4 (R3.out.later b1)
     have HZ1 := hide z1; have HZ2 := hide z2; have OG := hide og.reads
     clear z1 z2 hg og
     go_upto_region 8 with fail
     obtain ⟨W1, hW1⟩ : ∃ W1, W1 = w1.alloc (Obj.cells #[Value.bool false, Value.slice G g1 g2] 65) := ⟨_, rfl⟩
     have hb1 : Later wc W1 := by rw [hW1]; exact b1.alloc _
     have hb2 : Later w1 W1 := by rw [hW1]; exact (Later.refl w1).alloc _
     have hrg : Row W1 w1.heap.size 65 [.bool false, .slice G g1 g2] := by rw [hW1]; exact Row.new w1 65 [.bool false, .slice G g1 g2]
     rw [<- hW1]
     clear hW1 d1 d2 d3 d4 d5 d6 d7 d8 d9 d10 d11 d12 d13 d14 d15 d16
     have HEX : Hid (∀ W', Later W1.drew W' -> Calls Tryz.prog 167 #[.agg #[.bool s, .slice A n c], .pointer (some ⟨w1.heap.size, 0, none⟩)] W' (Ret W' fun w' v => OwnI w' W'.heap.size v q.num)) := hide fun W' hb =>
      exact_calls W' _ x' (k+1) g w1.heap.size 0 none G g1 g2 (hrx.out.later (hb1.drew.trans hb)) hgp (hrg.drew.later hb) (OG.out.later (hb2.drew.trans hb)) (by omega) (by omega) q.num HZ1.out
     have HEY : Hid (∀ W', Later W1.drew W' -> Calls Tryz.prog 167 #[.agg #[.bool false, .slice A' n' c'], .pointer (some ⟨w1.heap.size, 0, none⟩)] W' (Ret W' fun w' v => ∃ A n c, v = .agg #[.bool false, .slice A n c] /\ Own32 160 w' W'.heap.size (.slice A n c) (limbs q.den))) := hide fun W' hb => by
      refine (exact_calls W' _ y' (k+1) g w1.heap.size 0 none G g1 g2 (hry.out.later (hb1.drew.trans hb)) hgp (hrg.drew.later hb) (OG.out.later (hb2.drew.trans hb)) (by omega) (by omega) (q.den : Int) HZ2.out).mono ?_
      rintro e w' ⟨v, rfl, o, b⟩
      obtain ⟨s3, A3, n3, c3, rfl, o⟩ := o.open_
      have : s3 = false := by rw [o.sign]; simp
      subst this
      exact ⟨_, rfl, ⟨_, _, _, rfl, o.own⟩, b⟩
     have r1 := R1.out.later hb1.drew; have r2 := R2.out.later hb1.drew; have r3 := R3.out.later hb1.drew
     have R1 := hide r1; have R2 := hide r2; have R3 := hide r3
     have HT1 : Hid (∀ w', Later W1.drew w' -> w'.cell? ⟨w.heap.size, 0, none⟩ = some (.bool s) /\ w'.cell? ⟨w.heap.size, 1, none⟩ = some (.slice A n c) /\ w'.cell? ⟨w.heap.size + 1, 0, none⟩ = some (.bool false) /\ w'.cell? ⟨w.heap.size + 1, 1, none⟩ = some (.slice A' n' c')) :=
      hide fun w' hb => ⟨(r1.later hb).cell rfl, (r1.later hb).cell rfl, (r2.later hb).cell rfl, (r2.later hb).cell rfl⟩
     have HT2 : Hid (∀ w' a b c1 d, Later W1.drew w' -> ((((w'.setCell ⟨w.heap.size + 2, 0, none⟩ a).setCell ⟨w.heap.size + 2, 1, none⟩ b).setCell ⟨w.heap.size + 2, 2, none⟩ c1).setCell ⟨w.heap.size + 2, 3, none⟩ d).cell? ⟨w.heap.size, 0, none⟩ = some (.bool s) /\ ((((w'.setCell ⟨w.heap.size + 2, 0, none⟩ a).setCell ⟨w.heap.size + 2, 1, none⟩ b).setCell ⟨w.heap.size + 2, 2, none⟩ c1).setCell ⟨w.heap.size + 2, 3, none⟩ d).cell? ⟨w.heap.size, 1, none⟩ = some (.slice A n c) /\ ((((w'.setCell ⟨w.heap.size + 2, 0, none⟩ a).setCell ⟨w.heap.size + 2, 1, none⟩ b).setCell ⟨w.heap.size + 2, 2, none⟩ c1).setCell ⟨w.heap.size + 2, 3, none⟩ d).cell? ⟨w.heap.size + 1, 0, none⟩ = some (.bool false) /\ ((((w'.setCell ⟨w.heap.size + 2, 0, none⟩ a).setCell ⟨w.heap.size + 2, 1, none⟩ b).setCell ⟨w.heap.size + 2, 2, none⟩ c1).setCell ⟨w.heap.size + 2, 3, none⟩ d).cell? ⟨w.heap.size + 1, 1, none⟩ = some (.slice A' n' c')) :=
      hide fun w' a b c1 d hb => ⟨((r1.later hb).far4 (by omega) a b c1 d).cell rfl, ((r1.later hb).far4 (by omega) a b c1 d).cell rfl, ((r2.later hb).far4 (by omega) a b c1 d).cell rfl, ((r2.later hb).far4 (by omega) a b c1 d).cell rfl⟩
     have HB1 := hide hb1.drew
     have hs0 := HB1.out.size
     clear hb1 hb2 hrg OG r1 r2 r3
     rename_i K2 hK2
     go_region_held3 (fun w' => w'.cell? ⟨w.heap.size, 0, none⟩ = some (.bool s) /\ w'.cell? ⟨w.heap.size, 1, none⟩ = some (.slice A n c) /\ w'.cell? ⟨w.heap.size + 1, 0, none⟩ = some (.bool false) /\ w'.cell? ⟨w.heap.size + 1, 1, none⟩ = some (.slice A' n' c'))
      (first | exact HT1.out _ (Later.refl _) | exact HT1.out _ b3 | exact HT1.out _ (b3.trans b4) | exact HT2.out _ _ _ _ _ (b3.trans b4))
      (first
       | ((with_reducible refine (HEX.out _ (Later.refl _)).mono ?_); rintro e w3 ⟨v3, rfl, o3, b3⟩; obtain ⟨s3, Q1, q3, q4, rfl, o3⟩ := o3.open_; have O3 := hide o3; clear o3)
       | ((with_reducible refine (HEY.out _ b3).mono ?_); rintro e w4 ⟨v4, rfl, o4, b4⟩; obtain ⟨Q2, q5, q6, rfl, o4⟩ := o4; have O4 := hide o4; clear o4; obtain ⟨e1, e2, e3, e4, e5, e6, e7, e8⟩ := row_cells4 (R3.out.later (b3.trans b4))))
     show K2 _ _
     refine hK2 _ _ ?_
     have hb := b3.trans b4
     have hrow := R3.out.later hb
     have hs3 := b3.size
     clear e1 e2 e3 e4 e5 e6 e7 e8 hK2
     go_wp2_with fail
     refine bodyPost_ret (results_rat rfl rfl (hrow.four _ _ _ _)) rfl ?_
     have oo := Only.four (w.heap.size + 2) w4 (.bool s3) (.slice Q1 q3 q4) (.bool false) (.slice Q2 q5 q6)
     refine ⟨_, rfl, OwnR.weaken (OwnR.mk_ (B := w.heap.size + 3) ?_ ?_) (by omega), (hL.trans (HB1.out.trans hb)).only oo (by omega)⟩
     ·exact ((O3.out.later b4).only oo (by omega)).weaken (by omega)
     ·exact (O4.out.only oo (by omega)).weaken (by omega)
end Go.Proofs.YtncbebfhakcgdaaGreat
namespace Go.Proofs.YtncbebfhakcgdaaGreat
theorem den_ne (a : Rat) : (a.den : Rat) ≠ 0 := by have := a.den_nz; simpa using this
theorem num_eq (a : Rat) : (a.num : Rat) = a * (a.den : Rat) := by
 have h := Rat.mkRat_self a
 rw [Rat.mkRat_eq_div] at h
 have h2 := den_ne a
 grind
theorem ratOf_add (a b : Rat) : Rat.divInt (a.num * b.den + b.num * a.den) (a.den * b.den) = a + b := by
 rw [Rat.divInt_eq_div]
 simp only [Rat.intCast_add, Rat.intCast_mul, Rat.intCast_natCast, num_eq]
 have := den_ne a; have := den_ne b
 grind
theorem ratOf_div (a b : Rat) : Rat.divInt (a.num * b.den) (a.den * b.num) = a / b := by
 rw [Rat.divInt_eq_div]
 simp only [Rat.intCast_mul, Rat.intCast_natCast, num_eq]
 have := den_ne a; have := den_ne b
 by_cases h : b = 0
 ·subst h; simp [Rat.div_def]
 ·grind
def cmpQ (a b : Rat) : Int := if a < b then -1 else if b < a then 1 else 0
theorem cmpQ_eq (a b : Rat) : cmpQ a b = if a.num * b.den < b.num * a.den then -1 else if b.num * a.den < a.num * b.den then 1 else 0 := by
 unfold cmpQ; simp only [Rat.lt_iff]
theorem divInt_parts {x y : Int} (hy : y ≠ 0) : (Rat.divInt x y).num.natAbs <= x.natAbs /\ (Rat.divInt x y).den <= y.natAbs := by
 have key : ∀ (x : Int) (n : Nat), n ≠ 0 -> (mkRat x n).num.natAbs <= x.natAbs /\ (mkRat x n).den <= n := by
  intro x n hn
  rw [Rat.mkRat_def, dif_neg hn, Rat.num_normalize, Rat.den_normalize]
  refine ⟨?_, Nat.div_le_self _ _⟩
  exact Int.natAbs_ediv_le_natAbs _ _
 rcases Int.lt_or_gt_of_ne hy with h | h
 ·have h1 : y = -((-y).toNat : Int) := by omega
  obtain ⟨m, hm⟩ : ∃ m, (-y).toNat = m + 1 := ⟨(-y).toNat - 1, by omega⟩
  have h2 := key (-x) (m+1) (by omega)
  rw [Int.natAbs_neg] at h2
  have h3 : Rat.divInt x y = mkRat (-x) (m+1) := by
   conv => lhs; rw [h1, hm]
   rfl
  rw [h3]; exact ⟨h2.1, by omega⟩
 ·have h1 : y = (y.toNat : Int) := by omega
  have h2 := key x y.toNat (by omega)
  have h3 : Rat.divInt x y = mkRat x y.toNat := by
   conv => lhs; rw [h1]
   rfl
  rw [h3]; exact ⟨h2.1, by omega⟩
theorem Sized.mono {q : Rat} {k m : Nat} (h : Sized q k) (hm : k <= m) : Sized q m := ⟨Nat.le_trans h.1 hm, Nat.le_trans h.2 hm⟩
theorem sized_divInt {x y : Int} {k : Nat} (hy : y ≠ 0) (hx : (limbs x.natAbs).length <= k) (hy' : (limbs y.natAbs).length <= k) : Sized (Rat.divInt x y) k := by
 have h := divInt_parts (x := x) hy
 exact ⟨Nat.le_trans (length_limbs_mono h.1) hx, Nat.le_trans (length_limbs_mono h.2) hy'⟩
theorem limbs_add_len1 {a b : Nat} {k : Nat} (ha : (limbs a).length <= k) (hb : (limbs b).length <= k) : (limbs (a + b)).length <= k + 1 := by
 refine length_limbs_le ?_
 have h1 := Nat.lt_of_lt_of_le (lt_of_length_limbs a) (Nat.pow_le_pow_right (by omega) ha)
 have h2 := Nat.lt_of_lt_of_le (lt_of_length_limbs b) (Nat.pow_le_pow_right (by omega) hb)
 rw [Nat.pow_succ]; omega
theorem limbs_mulZ {a b : Int} {k m : Nat} (ha : (limbs a.natAbs).length <= k) (hb : (limbs b.natAbs).length <= m) : (limbs (a * b).natAbs).length <= k + m := by
 rw [Int.natAbs_mul]; exact limbs_mul_len ha hb
theorem limbs_addZ {a b : Int} {k : Nat} (ha : (limbs a.natAbs).length <= k) (hb : (limbs b.natAbs).length <= k) : (limbs (a + b).natAbs).length <= k + 1 :=
 Nat.le_trans (length_limbs_mono (Int.natAbs_add_le a b)) (limbs_add_len1 ha hb)
theorem limbs_castZ {n : Nat} {k : Nat} (h : (limbs n).length <= k) : (limbs (n : Int).natAbs).length <= k := by rw [Int.natAbs_natCast]; exact h
theorem den_mul_ne (a b : Rat) : ((a.den : Int) * (b.den : Int)) ≠ 0 := by
 have h1 := a.den_nz; have h2 := b.den_nz
 intro h; rcases Int.mul_eq_zero.1 h with h | h <;> omega
theorem Sized.add {a b : Rat} {k m : Nat} (ha : Sized a k) (hb : Sized b m) : Sized (a + b) (k + m + 1) := by
 rw [<- ratOf_add]
 refine sized_divInt (den_mul_ne a b) (limbs_addZ (k := k + m) (limbs_mulZ ha.1 (limbs_castZ hb.2)) ?_) (Nat.le_succ_of_le (limbs_mulZ (limbs_castZ ha.2) (limbs_castZ hb.2)))
 rw [Nat.add_comm]; exact limbs_mulZ hb.1 (limbs_castZ ha.2)
theorem Sized.zero (k : Nat) : Sized 0 (k+1) := by
 constructor
 ·show (limbs 0).length <= k+1; rw [limbs_zero]; simp
 ·show (limbs 1).length <= k+1; rw [limbs_pos (by omega), limbs_zero]; simp
theorem Sized.div {a b : Rat} {k m : Nat} (ha : Sized a k) (hb : Sized b m) : Sized (a / b) (k + m + 1) := by
 by_cases h : b = 0
 ·subst h; rw [show a / 0 = 0 by simp [Rat.div_def]]; exact Sized.zero _
 ·rw [<- ratOf_div]
  refine (sized_divInt ?_ (limbs_mulZ ha.1 (limbs_castZ hb.2)) (limbs_mulZ (limbs_castZ ha.2) hb.1)).mono (by omega)
  intro h0
  have := a.den_nz
  rcases Int.mul_eq_zero.1 h0 with h0 | h0
  ·omega
  ·exact h (Rat.num_eq_zero.1 h0)
theorem ratOf_pos {x y : Int} (h : 0 < y) : ratOf x y = Rat.divInt x y := by
 unfold ratOf; rw [if_pos h]
 have h1 : y = (y.toNat : Int) := by omega
 conv => rhs; rw [h1]
 rfl
theorem ratOf_not {x y : Int} (h : ¬ 0 < y) : ratOf x y = 0 := by unfold ratOf; rw [if_neg h]
theorem sized_ratOf {x y : Int} {k : Nat} (hx : (limbs x.natAbs).length <= k) (hy : (limbs y.natAbs).length <= k) : Sized (ratOf x y) (k+1) := by
 by_cases h : 0 < y
 ·rw [ratOf_pos h]; exact (sized_divInt (by omega) hx hy).mono (by omega)
 ·rw [ratOf_not h]; exact Sized.zero k
end Go.Proofs.YtncbebfhakcgdaaGreat
namespace Go.Proofs.YtncbebfhakcgdaaGreat
open Go.RowKit Go.Shelf
attribute [local go_sem ↓] Go.wp_at_zero Go.wp_at_succ
def PlnR (w : World) (v : Value) (q : Rat) (k : Nat) : Prop :=
 ∃ s A n c s' A' n' c', v = .agg #[.bool s, .slice A n c, .bool s', .slice A' n' c'] /\ RawI w (.agg #[.bool s, .slice A n c]) q.num k /\ RawI w (.agg #[.bool s', .slice A' n' c']) q.den k
theorem PlnR.later {w w' : World} {v : Value} {q : Rat} {k : Nat} (h : PlnR w v q k) (hb : Later w w') : PlnR w' v q k := by
 obtain ⟨s, A, n, c, s', A', n', c', e, h1, h2⟩ := h; exact ⟨s, A, n, c, s', A', n', c', e, h1.later hb, h2.later hb⟩
theorem PlnR.sized {w : World} {v : Value} {q : Rat} {k : Nat} (h : PlnR w v q k) : Sized q k := by
 obtain ⟨s, A, n, c, s', A', n', c', e, h1, h2⟩ := h
 exact ⟨h1.limbs_le, by have := h2.limbs_le; rwa [Int.natAbs_natCast] at this⟩
end Go.Proofs.YtncbebfhakcgdaaGreat
namespace Go.Proofs.YtncbebfhakcgdaaGreat
open Go.RowKit Go.Shelf
attribute [local go_sem ↓] Go.wp_at_zero Go.wp_at_succ
structure Enters (f : FuncId) : Prop where
 out : ∀ (w : World) (args : Array Value), (callFunc f args).run Tryz.prog w = .ok (.enter f args) w
theorem RawR.sized {w : World} {v : Value} {q : Rat} {k : Nat} (h : RawR w v q k) : Sized q (k+1) := by
 obtain ⟨a, A, n, c, b, A', n', c', x, y, e, h1, h2, rfl⟩ := h
 exact sized_ratOf h1.limbs_le h2.limbs_le
set_option maxHeartbeats 2000000 in
theorem rplain_calls (w : World) (v : Value) (q : Rat) (k : Nat) (h : RawR w v q k) (hk : k <= 300000000) :
 Calls Tryz.prog 123 #[v] w (Ret w fun w' v => OwnR w' w.heap.size v q) := by
 obtain ⟨sa, A1, n1, c1, sa', A1', n1', c1', x, y, rfl, hx, hy, hq⟩ := h
 have HX := hide hx; have HY := hide hy; have HQ := hide hq
 clear hx hy hq
 by_cases hpos : 0 < y
 ·have hq : q = Rat.divInt x y := by rw [HQ.out, ratOf_pos hpos]
  have HQ2 := hide hq
  clear hq
  go_enter Tryz.func123, Tryz.ntmps123
  go_wp2_with fail
  obtain ⟨W0, hW0⟩ : ∃ W0, W0 = ((w.alloc (Obj.cells #[Value.bool sa, Value.slice A1 n1 c1, Value.bool sa', Value.slice A1' n1' c1'] 67)).alloc (Obj.cells #[Value.bool false, Value.slice none 0 0, Value.bool false, Value.slice none 0 0] 67)) := ⟨_, rfl⟩
  obtain ⟨hb0, r1, r2, hsz⟩ := boxes2 w [.bool sa, .slice A1 n1 c1, .bool sa', .slice A1' n1' c1'] [.bool false, .slice none 0 0, .bool false, .slice none 0 0] 67 67 hW0
  rw [<- hW0]
  have R1 := hide r1; have R2 := hide r2; have B0 := hide hb0
  clear hW0 r1 r2 hb0
  refine (may_calls _ sa _ undef _ _ _ sa' y k (HY.out.later B0.out) ⟨_, _, _, rfl⟩ (by omega)).mono ?_
  rintro e w1 ⟨rfl, b1⟩
  rw [show decide (0 < y) = true by simpa using hpos]
  obtain ⟨d1, d2, d3, d4, d5, d6, d7, d8⟩ := row_cells4 (R1.out.later b1)
  go_wp2_with fail
  refine (by_calls _ _ _ x y k (HX.out.later (B0.out.trans b1)) (HY.out.later (B0.out.trans b1)) (by omega) (by omega) q HQ2.out).mono ?_
  rintro e w2 ⟨v2, rfl, o2, b2⟩
  obtain ⟨s2, P2, q2, e2, P2', q2', e2', rfl, o2⟩ := o2.open_; have O2 := hide o2; clear o2
  clear d1 d2 d3 d4 d5 d6 d7 d8
  have hb := b1.trans b2
  obtain ⟨d1, d2, d3, d4, d5, d6, d7, d8⟩ := row_cells4 (R2.out.later hb)
  have hrow := R2.out.later hb
  have hL := B0.out.trans hb
  have hs1 := b1.size
  have HR := hide hrow
  clear hrow
  go_wp2_with fail
  refine bodyPost_ret (results_rat rfl rfl (HR.out.four _ _ _ _)) rfl ?_
  have oo := Only.four (w.heap.size + 1) w2 (.bool s2) (.slice P2 q2 e2) (.bool false) (.slice P2' q2' e2')
  exact ⟨_, rfl, (O2.out.only oo (by omega)).weaken (by omega), hL.only oo (by omega)⟩
 ·have hq : q = 0 := by rw [HQ.out, ratOf_not hpos]
  subst hq
  go_enter Tryz.func123, Tryz.ntmps123
  go_wp2_with fail
  obtain ⟨W0, hW0⟩ : ∃ W0, W0 = ((w.alloc (Obj.cells #[Value.bool sa, Value.slice A1 n1 c1, Value.bool sa', Value.slice A1' n1' c1'] 67)).alloc (Obj.cells #[Value.bool false, Value.slice none 0 0, Value.bool false, Value.slice none 0 0] 67)) := ⟨_, rfl⟩
  obtain ⟨hb0, r1, r2, hsz⟩ := boxes2 w [.bool sa, .slice A1 n1 c1, .bool sa', .slice A1' n1' c1'] [.bool false, .slice none 0 0, .bool false, .slice none 0 0] 67 67 hW0
  rw [<- hW0]
  have R1 := hide r1; have R2 := hide r2; have B0 := hide hb0
  clear hW0 r1 r2 hb0
  refine (may_calls _ sa _ undef _ _ _ sa' y k (HY.out.later B0.out) ⟨_, _, _, rfl⟩ (by omega)).mono ?_
  rintro e w1 ⟨rfl, b1⟩
  rw [show decide (0 < y) = false by simpa using hpos]
  go_wp2_with fail
  refine (zero_calls _).mono ?_
  rintro e w2 ⟨v2, rfl, o2, b2⟩
  obtain ⟨s2, P2, q2, e2, P2', q2', e2', rfl, o2⟩ := o2.open_; have O2 := hide o2; clear o2
  have hb := b1.trans b2
  obtain ⟨d1, d2, d3, d4, d5, d6, d7, d8⟩ := row_cells4 (R2.out.later hb)
  have hL := B0.out.trans hb
  have hs1 := b1.size
  have HR := hide (R2.out.later hb)
  go_wp2_with fail
  refine bodyPost_ret (results_rat rfl rfl (HR.out.four _ _ _ _)) rfl ?_
  have oo := Only.four (w.heap.size + 1) w2 (.bool s2) (.slice P2 q2 e2) (.bool false) (.slice P2' q2' e2')
  exact ⟨_, rfl, (O2.out.only oo (by omega)).weaken (by omega), hL.only oo (by omega)⟩
end Go.Proofs.YtncbebfhakcgdaaGreat
namespace Go.Proofs.YtncbebfhakcgdaaGreat
open Go.RowKit Go.Shelf
attribute [local go_sem ↓] Go.wp_at_zero Go.wp_at_succ
def Only2 (g h : Nat) (w w' : World) : Prop := ∃ u, (Only g w u /\ Only h u w') ∨ (Only h w u /\ Only g u w')
theorem Only2.size {g h : Nat} {w w' : World} (o : Only2 g h w w') : w'.heap.size = w.heap.size := by
 obtain ⟨u, ⟨a, b⟩ | ⟨a, b⟩⟩ := o <;> exact b.size.trans a.size
theorem Row.only2 {w w' : World} {g h k : Nat} {t : TypeId} {cs : List Value} (r : Row w k t cs) (o : Only2 g h w w') (hg : k ≠ g) (hh : k ≠ h) : Row w' k t cs := by
 obtain ⟨u, ⟨a, b⟩ | ⟨a, b⟩⟩ := o
 ·exact (r.only a hg).only b hh
 ·exact (r.only a hh).only b hg
theorem OwnR.only2 {w w' : World} {g h B : Nat} {v : Value} {q : Rat} (r : OwnR w B v q) (o : Only2 g h w w') (hg : g < B) (hh : h < B) : OwnR w' B v q := by
 obtain ⟨u, ⟨a, b⟩ | ⟨a, b⟩⟩ := o
 ·exact (r.only a hg).only b hh
 ·exact (r.only a hh).only b hg
theorem Later.only2 {a w w' : World} {g h : Nat} (l : Later a w) (o : Only2 g h w w') (hg : a.heap.size <= g) (hh : a.heap.size <= h) : Later a w' := by
 obtain ⟨u, ⟨a, b⟩ | ⟨a, b⟩⟩ := o
 ·exact (l.only a hg).only b hh
 ·exact (l.only a hh).only b hg
theorem put_two {W : World} {g h : Nat} {t t' : TypeId} {a b c d a' b' c' d' : Value} (hgh : g ≠ h) (ra : Row W g t [a, b, c, d]) (rb : Row W h t' [a', b', c', d']) (x y z u x' y' z' u' : Value) :
 Row ((((((((W.setCell ⟨g, 0, none⟩ x).setCell ⟨g, 1, none⟩ y).setCell ⟨g, 2, none⟩ z).setCell ⟨g, 3, none⟩ u).setCell ⟨h, 0, none⟩ x').setCell ⟨h, 1, none⟩ y').setCell ⟨h, 2, none⟩ z').setCell ⟨h, 3, none⟩ u') g t [x, y, z, u] /\ Row ((((((((W.setCell ⟨g, 0, none⟩ x).setCell ⟨g, 1, none⟩ y).setCell ⟨g, 2, none⟩ z).setCell ⟨g, 3, none⟩ u).setCell ⟨h, 0, none⟩ x').setCell ⟨h, 1, none⟩ y').setCell ⟨h, 2, none⟩ z').setCell ⟨h, 3, none⟩ u') h t' [x', y', z', u'] /\ Only2 g h W ((((((((W.setCell ⟨g, 0, none⟩ x).setCell ⟨g, 1, none⟩ y).setCell ⟨g, 2, none⟩ z).setCell ⟨g, 3, none⟩ u).setCell ⟨h, 0, none⟩ x').setCell ⟨h, 1, none⟩ y').setCell ⟨h, 2, none⟩ z').setCell ⟨h, 3, none⟩ u') := by
 have o1 := Only.four g W x y z u
 have r1 := ra.four x y z u
 obtain ⟨V, hV⟩ : ∃ V, V = ((((W.setCell ⟨g, 0, none⟩ x).setCell ⟨g, 1, none⟩ y).setCell ⟨g, 2, none⟩ z).setCell ⟨g, 3, none⟩ u) := ⟨_, rfl⟩
 rw [<- hV] at o1 r1 ⊢
 have o2 := Only.four h V x' y' z' u'
 exact ⟨r1.only o2 hgh, (rb.only o1 hgh.symm).four _ _ _ _, V, .inl ⟨o1, o2⟩⟩
def PairAt (w : World) (n : Nat) (a b : Rat) (X : World -> Prop) (wx : World) : Prop :=
 ∃ sa A1 n1 c1 A1' n1' c1' sb A2 n2 c2 A2' n2' c2', Row wx w.heap.size 67 [.bool sa, .slice A1 n1 c1, .bool false, .slice A1' n1' c1'] /\ Row wx (w.heap.size + 1) 67 [.bool sb, .slice A2 n2 c2, .bool false, .slice A2' n2' c2'] /\
   OwnR wx (w.heap.size + n) (.agg #[.bool sa, .slice A1 n1 c1, .bool false, .slice A1' n1' c1']) a /\ OwnR wx (w.heap.size + n) (.agg #[.bool sb, .slice A2 n2 c2, .bool false, .slice A2' n2' c2']) b /\ Later w wx /\ w.heap.size + n <= wx.heap.size /\ X wx
theorem pair_stores {w W : World} {n : Nat} (hn : 2 <= n) {a b : Rat} {X : World -> Prop} {sa sb : Bool} {A1 A1' A2 A2' : Option Addr} {n1 c1 n1' c1' n2 c2 n2' c2' : Nat} {a1 b1 d1 e1 a2 b2 d2 e2 : Value}
 (ra : Row W w.heap.size 67 [a1, b1, d1, e1]) (rb : Row W (w.heap.size + 1) 67 [a2, b2, d2, e2])
 (oa : OwnR W (w.heap.size + n) (.agg #[.bool sa, .slice A1 n1 c1, .bool false, .slice A1' n1' c1']) a) (ob : OwnR W (w.heap.size + n) (.agg #[.bool sb, .slice A2 n2 c2, .bool false, .slice A2' n2' c2']) b)
 (hL : Later w W) (hs : w.heap.size + n <= W.heap.size) (hX : ∀ V, Only2 w.heap.size (w.heap.size + 1) W V -> X V) :
 PairAt w n a b X ((((((((W.setCell ⟨w.heap.size, 0, none⟩ (.bool sa)).setCell ⟨w.heap.size, 1, none⟩ (.slice A1 n1 c1)).setCell ⟨w.heap.size, 2, none⟩ (.bool false)).setCell ⟨w.heap.size, 3, none⟩ (.slice A1' n1' c1')).setCell ⟨w.heap.size + 1, 0, none⟩ (.bool sb)).setCell ⟨w.heap.size + 1, 1, none⟩ (.slice A2 n2 c2)).setCell ⟨w.heap.size + 1, 2, none⟩ (.bool false)).setCell ⟨w.heap.size + 1, 3, none⟩ (.slice A2' n2' c2')) /\
 PairAt w n a b X ((((((((W.setCell ⟨w.heap.size + 1, 0, none⟩ (.bool sb)).setCell ⟨w.heap.size + 1, 1, none⟩ (.slice A2 n2 c2)).setCell ⟨w.heap.size + 1, 2, none⟩ (.bool false)).setCell ⟨w.heap.size + 1, 3, none⟩ (.slice A2' n2' c2')).setCell ⟨w.heap.size, 0, none⟩ (.bool sa)).setCell ⟨w.heap.size, 1, none⟩ (.slice A1 n1 c1)).setCell ⟨w.heap.size, 2, none⟩ (.bool false)).setCell ⟨w.heap.size, 3, none⟩ (.slice A1' n1' c1')) := by
 constructor
 ·obtain ⟨r1, r2, o⟩ := put_two (by omega : w.heap.size ≠ w.heap.size + 1) ra rb (.bool sa) (.slice A1 n1 c1) (.bool false) (.slice A1' n1' c1') (.bool sb) (.slice A2 n2 c2) (.bool false) (.slice A2' n2' c2')
  exact ⟨_, _, _, _, _, _, _, _, _, _, _, _, _, _, r1, r2, oa.only2 o (by omega) (by omega), ob.only2 o (by omega) (by omega), hL.only2 o (by omega) (by omega), by rw [o.size]; exact hs, hX _ o⟩
 ·obtain ⟨r1, r2, u, o⟩ := put_two (by omega : w.heap.size + 1 ≠ w.heap.size) rb ra (.bool sb) (.slice A2 n2 c2) (.bool false) (.slice A2' n2' c2') (.bool sa) (.slice A1 n1 c1) (.bool false) (.slice A1' n1' c1')
  have o : Only2 w.heap.size (w.heap.size + 1) W _ := ⟨u, o.symm⟩
  exact ⟨_, _, _, _, _, _, _, _, _, _, _, _, _, _, r2, r1, oa.only2 o (by omega) (by omega), ob.only2 o (by omega) (by omega), hL.only2 o (by omega) (by omega), by rw [o.size]; exact hs, hX _ o⟩
theorem cmpZ_cmpQ (a b : Rat) : cmpZ (a.num * b.den) (b.num * a.den) = cmpQ a b := by rw [cmpQ_eq]; rfl
set_option maxHeartbeats 4000000 in
theorem rcmp_calls (w : World) (va vb : Value) (a b : Rat) (k m : Nat) (ha : RawR w va a k) (hb : RawR w vb b m) (hkm : k + m <= 200000000) :
 Calls Tryz.prog 102 #[va, vb] w (RetV w (.int .i64 (cmpQ a b))) := by
 have SA := ha.sized; have SB := hb.sized
 have HA := hide ha; have HB := hide hb
 obtain ⟨sa, A1, n1, c1, sa', A1', n1', c1', rfl⟩ := ha.open_
 obtain ⟨sb, A2, n2, c2, sb', A2', n2', c2', rfl⟩ := hb.open_
 clear ha hb
 go_enter Tryz.func102, Tryz.ntmps102
 go_upto_region 1 with fail
 go_cut [] (fun wx => PairAt w 2 a b (fun _ => True) wx)
 case first =>
  obtain ⟨W0, hW0⟩ : ∃ W0, W0 = ((w.alloc (Obj.cells #[Value.bool sa, Value.slice A1 n1 c1, Value.bool sa', Value.slice A1' n1' c1'] 67)).alloc (Obj.cells #[Value.bool sb, Value.slice A2 n2 c2, Value.bool sb', Value.slice A2' n2' c2'] 67)) := ⟨_, rfl⟩
  obtain ⟨hb0, r1, r2, hsz⟩ := boxes2 w [.bool sa, .slice A1 n1 c1, .bool sa', .slice A1' n1' c1'] [.bool sb, .slice A2 n2 c2, .bool sb', .slice A2' n2' c2'] 67 67 hW0
  rw [<- hW0]
  have hb0 := hb0.drew; have r1 := r1.drew; have r2 := r2.drew
  have hsz : W0.drew.heap.size = w.heap.size + 2 := hsz
  obtain ⟨d1, d2, d3, d4, d5, d6, d7, d8⟩ := row_cells4 r1
  obtain ⟨f1, f2, f3, f4, f5, f6, f7, f8⟩ := row_cells4 r2
  have R1 := hide r1; have R2 := hide r2; have B0 := hide hb0
  clear hW0 r1 r2 hb0 
  go_region_with (first
   | ((with_reducible refine (rplain_calls _ _ a k (HA.out.later B0.out) (by omega)).mono ?_); rintro e w1 ⟨v1, rfl, o1, b1⟩; obtain ⟨s1, P1, q1, e1, P1', q1', e1', rfl, o1⟩ := o1.open_; have O1 := hide o1; clear o1; obtain ⟨i1, i2, i3, i4, i5, i6, i7, i8⟩ := row_cells4 (R1.out.later b1); obtain ⟨j1, j2, j3, j4, j5, j6, j7, j8⟩ := row_cells4 (R2.out.later b1))
   | ((with_reducible refine (rplain_calls _ _ b m (HB.out.later (B0.out.trans b1)) (by omega)).mono ?_); rintro e w2 ⟨v2, rfl, o2, b2⟩; obtain ⟨s2, P2, q2, e2, P2', q2', e2', rfl, o2⟩ := o2.open_; have O2 := hide o2; clear o2; obtain ⟨k1, k2, k3, k4, k5, k6, k7, k8⟩ := row_cells4 (R1.out.later (b1.trans b2)); obtain ⟨l1, l2, l3, l4, l5, l6, l7, l8⟩ := row_cells4 (R2.out.later (b1.trans b2))))
  all_goals
   have hb := b1.trans b2
   have hs1 := b1.size
   have hs2 := hb.size
   have HS := hide (pair_stores (n := 2) (X := (fun _ => True)) (by omega) (R1.out.later hb) (R2.out.later hb) ((O1.out.later b2).weaken (by omega)) (O2.out.weaken (by omega)) (B0.out.trans hb) (by omega) (fun _ _ => trivial))
   clear d1 d2 d3 d4 d5 d6 d7 d8 f1 f2 f3 f4 f5 f6 f7 f8
   go_wp2_with fail
   go_meet
   first | exact HS.out.1 | exact HS.out.2
 case rest =>
  obtain ⟨sa, A1, n1, c1, A1', n1', c1', sb, A2, n2, c2, A2', n2', c2', r1, r2, oa, ob, hL, hsz, -⟩ := hcut
  clear HA HB
  obtain ⟨x1, hx1⟩ : ∃ x, x = a.num := ⟨_, rfl⟩
  obtain ⟨x2, hx2⟩ : ∃ x, x = (a.den : Int) := ⟨_, rfl⟩
  obtain ⟨y1, hy1⟩ : ∃ x, x = b.num := ⟨_, rfl⟩
  obtain ⟨y2, hy2⟩ : ∃ x, x = (b.den : Int) := ⟨_, rfl⟩
  have hq := cmpZ_cmpQ a b
  rw [<- hx1, <- hx2, <- hy1, <- hy2] at hq
  have ha1 := (oa.num.raw SA.1).later (Later.refl wc).drew; have ha2 := (oa.den.raw (limbs_castZ SA.2)).later (Later.refl wc).drew
  have hb1 := (ob.num.raw SB.1).later (Later.refl wc).drew; have hb2 := (ob.den.raw (limbs_castZ SB.2)).later (Later.refl wc).drew
  rw [<- hx1] at ha1; rw [<- hx2] at ha2; rw [<- hy1] at hb1; rw [<- hy2] at hb2
  have HA1 := hide ha1; have HA2 := hide ha2; have HB1 := hide hb1; have HB2 := hide hb2; have HQ := hide hq
  have Z1 : Hid ((limbs (x1 * y2).natAbs).length <= k + m + 2) := hide (Nat.le_trans (limbs_mulZ ha1.limbs_le hb2.limbs_le) (by omega))
  have Z2 : Hid ((limbs (y1 * x2).natAbs).length <= k + m + 2) := hide (Nat.le_trans (limbs_mulZ hb1.limbs_le ha2.limbs_le) (by omega))
  have r1 := r1.drew; have r2 := r2.drew
  have HT1 : Hid (∀ w', Later wc.drew w' -> w'.cell? ⟨w.heap.size, 0, none⟩ = some (.bool sa) /\ w'.cell? ⟨w.heap.size, 1, none⟩ = some (.slice A1 n1 c1) /\ w'.cell? ⟨w.heap.size, 2, none⟩ = some (.bool false) /\ w'.cell? ⟨w.heap.size, 3, none⟩ = some (.slice A1' n1' c1') /\ w'.cell? ⟨w.heap.size + 1, 0, none⟩ = some (.bool sb) /\ w'.cell? ⟨w.heap.size + 1, 1, none⟩ = some (.slice A2 n2 c2) /\ w'.cell? ⟨w.heap.size + 1, 2, none⟩ = some (.bool false) /\ w'.cell? ⟨w.heap.size + 1, 3, none⟩ = some (.slice A2' n2' c2')) :=
   hide fun w' hb => ⟨(r1.later hb).cell rfl, (r1.later hb).cell rfl, (r1.later hb).cell rfl, (r1.later hb).cell rfl, (r2.later hb).cell rfl, (r2.later hb).cell rfl, (r2.later hb).cell rfl, (r2.later hb).cell rfl⟩
  go_upto_region 2 with fail
  clear hx1 hx2 hy1 hy2 hq ha1 ha2 hb1 hb2 oa ob r1 r2 SA SB
  go_region_held3 (fun w' => w'.cell? ⟨w.heap.size, 0, none⟩ = some (.bool sa) /\ w'.cell? ⟨w.heap.size, 1, none⟩ = some (.slice A1 n1 c1) /\ w'.cell? ⟨w.heap.size, 2, none⟩ = some (.bool false) /\ w'.cell? ⟨w.heap.size, 3, none⟩ = some (.slice A1' n1' c1') /\ w'.cell? ⟨w.heap.size + 1, 0, none⟩ = some (.bool sb) /\ w'.cell? ⟨w.heap.size + 1, 1, none⟩ = some (.slice A2 n2 c2) /\ w'.cell? ⟨w.heap.size + 1, 2, none⟩ = some (.bool false) /\ w'.cell? ⟨w.heap.size + 1, 3, none⟩ = some (.slice A2' n2' c2'))
   (first | exact HT1.out _ (Later.refl _) | exact HT1.out _ b1 | exact HT1.out _ (b1.trans b2) | exact HT1.out _ ((b1.trans b2).trans b3))
   (first
    | ((with_reducible refine (wmul_calls _ _ _ x1 y2 (k+1) (m+1) (HA1.out.later (Later.refl _)) (HB2.out.later (Later.refl _)) (by omega) (by omega)).mono ?_); rintro e w1 ⟨v1, rfl, o1, b1⟩; obtain ⟨s1, P1, q1, e1, rfl, o1⟩ := o1.open_; have O1 := hide o1; clear o1)
    | ((with_reducible refine (wmul_calls _ _ _ y1 x2 (m+1) (k+1) (HB1.out.later b1) (HA2.out.later b1) (by omega) (by omega)).mono ?_); rintro e w2 ⟨v2, rfl, o2, b2⟩; obtain ⟨s2, P2, q2, e2, rfl, o2⟩ := o2.open_; have O2 := hide o2; clear o2)
    | ((with_reducible refine (wcmp_calls _ _ _ (x1 * y2) (y1 * x2) (k+m+2) (k+m+2) ((O1.out.raw Z1.out).later b2) (O2.out.raw Z2.out) (by omega) (by omega)).mono ?_); rintro e w3 ⟨rfl, b3⟩))
  go_wp2_with fail
  go_ret
  exact ⟨by first | (simp; done) | (rw [HQ.out]; simp; done) | (simp [HQ.out]; done), hL.trans ((Later.refl wc).drew.trans ((b1.trans b2).trans b3))⟩
end Go.Proofs.YtncbebfhakcgdaaGreat
namespace Go.Proofs.YtncbebfhakcgdaaGreat
def dval : List Nat -> Nat
 | [] => 0
 | x :: l => x + 256 * dval l
def digs (n : Nat) : List Nat := if h : n = 0 then [] else (n % 256) :: digs (n / 256)
termination_by n
decreasing_by omega
@[simp] theorem dval_nil : dval [] = 0 := rfl
@[simp] theorem dval_cons (x : Nat) (l : List Nat) : dval (x :: l) = x + 256 * dval l := rfl
theorem digs_zero : digs 0 = [] := by rw [digs]; simp
theorem digs_pos {n : Nat} (h : n ≠ 0) : digs n = (n % 256) :: digs (n / 256) := by
 rw [digs]; simp [h]
theorem dval_digs (n : Nat) : dval (digs n) = n := by
 induction n using Nat.strongRecOn with
 | _ n ih =>
   by_cases h : n = 0
   ·subst h; simp [digs_zero]
   ·rw [digs_pos h, dval_cons, ih _ (by omega)]; omega
def AllD (l : List Nat) : Prop := ∀ x ∈ l, x < 256
theorem AllD.nil : AllD [] := by intro x h; cases h
theorem AllD.cons {x : Nat} {l : List Nat} (h : x < 256) (hl : AllD l) : AllD (x :: l) := by
 intro y hy; cases hy with
 | head => exact h
 | tail _ h' => exact hl _ h'
theorem AllD.head {x : Nat} {l : List Nat} (h : AllD (x :: l)) : x < 256 := h _ (List.mem_cons_self ..)
theorem AllD.tail {x : Nat} {l : List Nat} (h : AllD (x :: l)) : AllD l := fun y hy => h _ (List.mem_cons_of_mem _ hy)
theorem AllD.append {a b : List Nat} (ha : AllD a) (hb : AllD b) : AllD (a ++ b) := by
 intro x hx; rcases List.mem_append.1 hx with h | h
 ·exact ha x h
 ·exact hb x h
theorem AllD.take {l : List Nat} (h : AllD l) (k : Nat) : AllD (l.take k) := fun x hx => h x (List.mem_of_mem_take hx)
theorem AllD.drop {l : List Nat} (h : AllD l) (k : Nat) : AllD (l.drop k) := fun x hx => h x (List.mem_of_mem_drop hx)
theorem AllD.at_ {l : List Nat} (h : AllD l) {k x : Nat} (hk : l[k]? = some x) : x < 256 := h x (List.mem_of_getElem? hk)
theorem AllD.set {l : List Nat} (h : AllD l) (k x : Nat) (hx : x < 256) : AllD (l.set k x) := by
 intro y hy
 rcases List.mem_or_eq_of_mem_set hy with h1 | h1
 ·exact h y h1
 ·omega
theorem AllD.replicate (n : Nat) : AllD (List.replicate n 0) := by
 intro x hx; have := List.eq_of_mem_replicate hx; omega
theorem digs_lt (n : Nat) : AllD (digs n) := by
 induction n using Nat.strongRecOn with
 | _ n ih =>
   by_cases h : n = 0
   ·subst h; rw [digs_zero]; exact AllD.nil
   ·rw [digs_pos h]; exact AllD.cons (by omega) (ih _ (by omega))
theorem dval_append (a b : List Nat) : dval (a ++ b) = dval a + 256 ^ a.length * dval b := by
 induction a with
 | nil => simp
 | cons x a ih => simp only [List.cons_append, dval_cons, ih, List.length_cons, Nat.pow_succ, Nat.mul_add]; rw [Nat.mul_comm (256 ^ a.length) 256, Nat.mul_assoc]; omega
theorem dval_replicate (n : Nat) : dval (List.replicate n 0) = 0 := by
 induction n with
 | zero => rfl
 | succ n ih => simp [List.replicate_succ, ih]
theorem dval_lt {l : List Nat} (h : AllD l) : dval l < 256 ^ l.length := by
 induction l with
 | nil => simp
 | cons x l ih =>
   have h1 := ih h.tail
   have h2 := h.head
   simp only [dval_cons, List.length_cons, Nat.pow_succ]
   have : dval l + 1 <= 256 ^ l.length := h1
   have := Nat.mul_le_mul_left 256 this
   rw [Nat.mul_comm (256 ^ l.length)]; omega
theorem digs_dval_of_last {l : List Nat} (h : AllD l) (hl : ∀ x, l.getLast? = some x -> x ≠ 0) : digs (dval l) = l := by
 induction l with
 | nil => simp [digs_zero]
 | cons x l ih =>
   have hx := h.head
   cases l with
   | nil =>
     have : x ≠ 0 := hl x (by simp)
     simp only [dval_cons, dval_nil, Nat.mul_zero, Nat.add_zero]
     rw [digs_pos this, Nat.mod_eq_of_lt hx, Nat.div_eq_of_lt hx, digs_zero]
   | cons y l =>
     have ih' := ih h.tail (by intro z hz; exact hl z (by simpa using hz))
     have hv : dval (x :: y :: l) ≠ 0 := by
      intro h0
      have : dval (y :: l) = 0 := by simp only [dval_cons] at h0 ⊢; omega
      rw [this, digs_zero] at ih'
      cases ih'
     rw [digs_pos hv]
     have e1 : dval (x :: y :: l) % 256 = x := by simp only [dval_cons]; omega
     have e2 : dval (x :: y :: l) / 256 = dval (y :: l) := by simp only [dval_cons]; omega
     rw [e1, e2, ih']
theorem dval_take_drop (l : List Nat) (k : Nat) (h : k <= l.length) : dval l = dval (l.take k) + 256 ^ k * dval (l.drop k) := by
 conv => lhs; rw [<- List.take_append_drop k l]
 rw [dval_append, List.length_take, Nat.min_eq_left h]
theorem take_digs {l : List Nat} {k : Nat} (h : AllD l) (hk : k <= l.length) (h0 : dval (l.drop k) = 0) (h1 : ∀ x, 0 < k -> l[k-1]? = some x -> x ≠ 0) : l.take k = digs (dval l) := by
 have hv : dval l = dval (l.take k) := by rw [dval_take_drop l k hk, h0]; simp
 rw [hv, digs_dval_of_last (h.take k)]
 intro x hx
 by_cases hk0 : k = 0
 ·subst hk0; simp at hx
 ·refine h1 x (by omega) ?_
  rw [List.getLast?_eq_getElem?, List.length_take, Nat.min_eq_left hk] at hx
  rw [List.getElem?_take_of_lt (by omega)] at hx
  exact hx
theorem length_digs_le {n k : Nat} (h : n < 256 ^ k) : (digs n).length <= k := by
 induction k generalizing n with
 | zero => have : n = 0 := by simpa using h
           subst this; simp [digs_zero]
 | succ k ih =>
   by_cases h0 : n = 0
   ·subst h0; simp [digs_zero]
   ·rw [digs_pos h0, List.length_cons]
    have : n / 256 < 256 ^ k := by
     rw [Nat.pow_succ] at h
     exact Nat.div_lt_of_lt_mul (by rw [Nat.mul_comm]; exact h)
    have := ih this; omega
theorem lt_of_length_digs (n : Nat) : n < 256 ^ (digs n).length := by
 have := dval_lt (digs_lt n); rwa [dval_digs] at this
theorem digs_ne_nil {n : Nat} (h : n ≠ 0) : digs n ≠ [] := by rw [digs_pos h]; simp
theorem digs_eq_nil {n : Nat} : digs n = [] ↔ n = 0 := by
 constructor
 ·intro h; exact Classical.byContradiction fun h0 => digs_ne_nil h0 h
 ·rintro rfl; exact digs_zero
theorem length_digs_pos {n : Nat} : 0 < (digs n).length ↔ n ≠ 0 := by
 rw [List.length_pos_iff]; simp [digs_eq_nil]
theorem le_of_length_digs {n : Nat} (h : n ≠ 0) : 256 ^ ((digs n).length - 1) <= n := by
 induction n using Nat.strongRecOn with
 | _ n ih =>
   rw [digs_pos h, List.length_cons, Nat.add_sub_cancel]
   by_cases h1 : n / 256 = 0
   ·rw [h1, digs_zero]; show 256 ^ 0 <= n; rw [Nat.pow_zero]; omega
   ·have := ih _ (by omega) h1
    have hl : 0 < (digs (n / 256)).length := length_digs_pos.2 h1
    obtain ⟨m, hm⟩ : ∃ m, (digs (n / 256)).length = m + 1 := ⟨(digs (n / 256)).length - 1, by omega⟩
    rw [hm] at this ⊢
    rw [Nat.add_sub_cancel] at this
    rw [Nat.pow_succ]
    exact Nat.le_trans (Nat.mul_le_mul_right 256 this) (Nat.div_mul_le_self n 256)
theorem length_digs_mono {a b : Nat} (h : a <= b) : (digs a).length <= (digs b).length :=
 length_digs_le (Nat.lt_of_le_of_lt h (lt_of_length_digs b))
theorem dval_take_succ (l : List Nat) (k : Nat) : dval (l.take (k+1)) = dval (l.take k) + 256 ^ k * l.getD k 0 := by
 by_cases h : k < l.length
 ·rw [List.take_succ_eq_append_getElem h, dval_append, List.length_take, Nat.min_eq_left (by omega), List.getD_eq_getElem?_getD, List.getElem?_eq_getElem h]; simp
 ·rw [List.take_of_length_le (by omega), List.take_of_length_le (by omega), List.getD_eq_getElem?_getD, List.getElem?_eq_none (by omega)]; simp
theorem carry_stepD (p s u v x y c : Nat) (h : u + p * c = v) (hs : s = c + x + y) : (u + p * (s % 256)) + (p * 256) * (s / 256) = v + p * x + p * y := by
 have := Nat.mod_add_div s 256
 subst hs
 have h2 : p * ((c + x + y) % 256) + (p * 256) * ((c + x + y) / 256) = p * (c + x + y) := by
  rw [Nat.mul_assoc, <- Nat.mul_add, this]
 rw [Nat.mul_add, Nat.mul_add] at h2
 omega
theorem borrow_stepD (p t u v x y c : Nat) (h : u + v = t + p * c) (hx : x < 256) (hy : y < 256) (hc : c <= 1) :
 (u + p * ((x + 256 - y - c) % 256)) + (v + p * y) = (t + p * x) + (p * 256) * (if x < y + c then 1 else 0) := by
 by_cases hb : x < y + c
 ·rw [if_pos hb]
  have e : (x + 256 - y - c) % 256 = x + 256 - y - c := by omega
  have e2 : x + 256 - y - c + y + c = x + 256 := by omega
  rw [e]
  have h2 : p * (x + 256 - y - c) + p * y + p * c = p * x + p * 256 := by
   rw [<- Nat.mul_add, <- Nat.mul_add, e2, Nat.mul_add]
  omega
 ·rw [if_neg hb]
  have e : (x + 256 - y - c) % 256 = x - y - c := by omega
  have e2 : x - y - c + y + c = x := by omega
  rw [e]
  have h2 : p * (x - y - c) + p * y + p * c = p * x := by
   rw [<- Nat.mul_add, <- Nat.mul_add, e2]
  omega
theorem sub_doneD {a b o : List Nat} {n c : Nat} (ho : o.length = n) (hn : n = a.length) (hle : dval b <= dval a) (hb : dval b < 256 ^ n -> dval (b.take n) = dval b) (hoa : AllD o) (haa : AllD a)
 (h : dval (o.take n) + dval (b.take n) = dval (a.take n) + 256 ^ n * c) : dval o = dval a - dval b := by
 have h1 := dval_lt haa
 rw [<- hn] at h1
 have h2 := hb (by omega)
 have h3 := dval_lt hoa
 rw [ho] at h3
 rw [List.take_of_length_le (l := o) (i := n) (by omega), List.take_of_length_le (l := a) (i := n) (by omega), h2] at h
 have h4 : c = 0 := by
  rcases Nat.eq_zero_or_pos c with h4 | h4
  ·exact h4
  ·have := Nat.mul_le_mul_left (256 ^ n) h4
   omega
 subst h4
 omega
theorem take_of_ltD {b : List Nat} {n : Nat} (h : dval b < 256 ^ n) : dval (b.take n) = dval b := by
 by_cases hn : n <= b.length
 ·have h1 := dval_take_drop b n hn
  rcases Nat.eq_zero_or_pos (dval (b.drop n)) with h2 | h2
  ·rw [h1, h2]; simp
  ·have := Nat.mul_le_mul_left (256 ^ n) h2
   omega
 ·rw [List.take_of_length_le (by omega)]
theorem getD_ltD {l : List Nat} (h : AllD l) (i : Nat) : l.getD i 0 < 256 := by
 rw [List.getD_eq_getElem?_getD]
 cases hx : l[i]? with
 | none => simp
 | some x => simpa using h.at_ hx
theorem dval_set (l : List Nat) (k v : Nat) (h : k < l.length) : dval (l.set k v) + 256 ^ k * l.getD k 0 = dval l + 256 ^ k * v := by
 induction l generalizing k with
 | nil => simp at h
 | cons x l ih =>
   cases k with
   | zero => simp; omega
   | succ k =>
     have := ih k (by simpa using h)
     simp only [List.set_cons_succ, dval_cons, List.getD_cons_succ, Nat.pow_succ]
     have e1 : 256 ^ k * 256 * l.getD k 0 = 256 * (256 ^ k * l.getD k 0) := by rw [Nat.mul_comm (256 ^ k) 256, Nat.mul_assoc]
     have e2 : 256 ^ k * 256 * v = 256 * (256 ^ k * v) := by rw [Nat.mul_comm (256 ^ k) 256, Nat.mul_assoc]
     rw [e1, e2]; omega
def four_ (x : Nat) : List Nat := [x % 256, x / 256 % 256, x / 256 / 256 % 256, x / 256 / 256 / 256 % 256]
def dig_ (x k : Nat) : Nat := x / 256 ^ k % 256
theorem four_eq (x : Nat) : four_ x = (List.range 4).map (dig_ x) := by
 show _ = [dig_ x 0, dig_ x 1, dig_ x 2, dig_ x 3]
 simp only [four_, dig_, Nat.pow_zero, Nat.div_one, Nat.pow_one, Nat.div_div_eq_div_mul]
theorem dval_four {x : Nat} (h : x < 4294967296) (l : List Nat) : dval (four_ x ++ l) = x + 4294967296 * dval l := by
 simp only [four_, List.cons_append, List.nil_append, dval_cons]
 omega
def fours (l : List Nat) : List Nat := l.flatMap four_
theorem dval_fours {l : List Nat} (h : AllLt l) : dval (fours l) = val l := by
 induction l with
 | nil => rfl
 | cons x l ih => rw [show fours (x :: l) = four_ x ++ fours l from rfl, dval_four h.head, ih h.tail]; rfl
theorem fours_all (l : List Nat) : AllD (fours l) := by
 intro x hx
 unfold fours four_ at hx
 rw [List.mem_flatMap] at hx
 obtain ⟨y, -, hx⟩ := hx
 simp at hx
 omega
theorem fours_len (l : List Nat) : (fours l).length = 4 * l.length := by
 induction l with
 | nil => rfl
 | cons x l ih => rw [show fours (x :: l) = four_ x ++ fours l from rfl, List.length_append, ih]; simp [four_]; omega
theorem fours_snoc (l : List Nat) (x : Nat) : fours (l ++ [x]) = fours l ++ four_ x := by simp [fours]
theorem digs_take {l : List Nat} {k : Nat} (h : AllD l) (hk : k <= l.length) (h0 : dval (l.drop k) = 0) (h1 : ∀ x, 0 < k -> l[k-1]? = some x -> x ≠ 0) : l.take k = digs (dval l) := take_digs h hk h0 h1
def limb4 (l : List Nat) (i : Nat) : Nat := l.getD i 0 + 256 * (l.getD (i+1) 0 + 256 * (l.getD (i+2) 0 + 256 * l.getD (i+3) 0))
theorem dval_take4 (l : List Nat) (i : Nat) : dval (l.take (i+4)) = dval (l.take i) + 256 ^ i * limb4 l i := by
 rw [show i + 4 = i+1+1+1+1 by omega, dval_take_succ, dval_take_succ, dval_take_succ, dval_take_succ]
 unfold limb4
 simp only [Nat.pow_succ, Nat.mul_add, Nat.mul_assoc, Nat.add_assoc]
theorem limb4_lt {l : List Nat} (h : AllD l) (i : Nat) : limb4 l i < 4294967296 := by
 have h0 := getD_ltD h i; have h1 := getD_ltD h (i+1); have h2 := getD_ltD h (i+2); have h3 := getD_ltD h (i+3)
 unfold limb4; omega
def limbs4 (l : List Nat) (n : Nat) : List Nat := (List.range n).map fun j => limb4 l (4*j)
theorem limbs4_succ (l : List Nat) (n : Nat) : limbs4 l (n+1) = limbs4 l n ++ [limb4 l (4*n)] := by simp [limbs4, List.range_succ]
theorem limbs4_all {l : List Nat} (h : AllD l) (n : Nat) : AllLt (limbs4 l n) := by
 intro x hx; simp [limbs4] at hx; obtain ⟨j, -, rfl⟩ := hx; exact limb4_lt h _
theorem limbs4_len (l : List Nat) (n : Nat) : (limbs4 l n).length = n := by simp [limbs4]
theorem val_limbs4 (l : List Nat) (n : Nat) : val (limbs4 l n) = dval (l.take (4*n)) := by
 induction n with
 | zero => simp [limbs4]
 | succ n ih => rw [limbs4_succ, val_append, ih, limbs4_len, show 4 * (n+1) = 4*n + 4 by omega, dval_take4, show (4294967296 : Nat) = 256 ^ 4 by rfl, <- Nat.pow_mul]; simp
theorem limbs4_done (d n : Nat) (h : (digs d).length <= 4*n) (h2 : 4*n < (digs d).length + 4) : limbs4 (digs d) n = limbs d := by
 have hv : val (limbs4 (digs d) n) = d := by rw [val_limbs4, List.take_of_length_le h, dval_digs]
 conv => rhs; rw [<- hv]
 symm
 apply limbs_val_of_last (limbs4_all (digs_lt d) n)
 intro x hx h0
 subst h0
 cases n with
 | zero => simp [limbs4] at hx
 | succ m =>
   rw [limbs4_succ, List.getLast?_append] at hx
   simp at hx
   have hd : d ≠ 0 := by rintro rfl; rw [digs_zero] at h2; simp only [List.length_nil] at h2; omega
   have hle := le_of_length_digs hd
   have h3 : dval ((digs d).take (4*m+4)) = d := by rw [List.take_of_length_le (by omega), dval_digs]
   rw [dval_take4, hx, Nat.mul_zero, Nat.add_zero] at h3
   have h4 := dval_lt ((digs_lt d).take (4*m))
   rw [h3] at h4
   have h5 : 256 ^ ((digs d).take (4*m)).length <= 256 ^ ((digs d).length - 1) := Nat.pow_le_pow_right (by omega) (by rw [List.length_take]; omega)
   omega
theorem cmp_lt {a b : List Nat} {n : Nat} (ha : AllD a) (hb : AllD b) (h : a.getD n 0 < b.getD n 0) (he : dval (a.drop (n+1)) = dval (b.drop (n+1))) : dval a < dval b := by
 have key : ∀ l : List Nat, dval l = dval (l.take (n+1)) + 256 ^ (n+1) * dval (l.drop (n+1)) := by
  intro l
  by_cases hk : n + 1 <= l.length
  ·exact dval_take_drop l (n+1) hk
  ·rw [List.take_of_length_le (by omega), List.drop_eq_nil_of_le (by omega)]; simp
 rw [key a, key b, he, dval_take_succ, dval_take_succ]
 have h1 := dval_lt (ha.take n)
 have h2 : 256 ^ (a.take n).length <= 256 ^ n := Nat.pow_le_pow_right (by omega) (List.length_take_le _ _)
 have h3 := Nat.mul_le_mul_left (256 ^ n) h
 rw [Nat.mul_succ] at h3
 omega
theorem add_doneD {a b o : List Nat} {n c : Nat} (ha : AllD a) (hb : AllD b) (hla : a.length < n) (hlb : b.length < n) (hc : c <= 1) (ho : o.length = n)
 (h : dval o + 256 ^ n * c = dval (a.take n) + dval (b.take n)) : dval o = dval a + dval b := by
 rw [List.take_of_length_le (by omega), List.take_of_length_le (by omega)] at h
 have h1 := dval_lt ha; have h2 := dval_lt hb
 obtain ⟨m, rfl⟩ : ∃ m, n = m + 1 := ⟨n - 1, by omega⟩
 have h3 : 256 ^ a.length <= 256 ^ m := Nat.pow_le_pow_right (by omega) (by omega)
 have h4 : 256 ^ b.length <= 256 ^ m := Nat.pow_le_pow_right (by omega) (by omega)
 rw [Nat.pow_succ] at h
 rcases (by omega : c = 0 ∨ c = 1) with rfl | rfl <;> omega
structure RowD (o0 o b : List Nat) (i k x c : Nat) : Prop where
 len : o.length = o0.length
 lt : AllD o
 sum : dval o + 256 ^ (i+k) * c = dval o0 + 256 ^ i * (x * dval (b.take k))
theorem RowD.start {o0 b : List Nat} {i x : Nat} (h : AllD o0) : RowD o0 o0 b i 0 x 0 := ⟨rfl, h, by simp⟩
theorem RowD.step {o0 o b : List Nat} {i k x c y z s : Nat} (h : RowD o0 o b i k x c) (hk : i + k < o.length) (hy : b.getD k 0 = y) (hz : o[i+k]? = some z) (hs : s = z + x * y + c) :
 RowD o0 (o.set (i + k) (s % 256)) b i (k+1) x (s / 256) := by
 refine ⟨by simp [h.len], h.lt.set _ _ (Nat.mod_lt _ (by omega)), ?_⟩
 have h1 := dval_set o (i+k) (s % 256) hk
 have hz2 : o.getD (i+k) 0 = z := by rw [List.getD_eq_getElem?_getD, hz]; rfl
 rw [hz2] at h1
 have e1 := Nat.mod_add_div s 256
 have e2 : 256 ^ (i+k) * (s % 256) + 256 ^ (i+k+1) * (s / 256) = 256 ^ (i+k) * s := by
  rw [Nat.pow_succ, Nat.mul_assoc, <- Nat.mul_add, e1]
 have e3 : 256 ^ (i+k) * s = 256 ^ (i+k) * z + 256 ^ i * (x * (256 ^ k * y)) + 256 ^ (i+k) * c := by
  rw [hs, Nat.mul_add, Nat.mul_add, Nat.pow_add]
  congr 2
  rw [Nat.mul_assoc]; congr 1
  rw [<- Nat.mul_assoc, <- Nat.mul_assoc, Nat.mul_comm (256 ^ k) x]
 have h3 := h.sum
 rw [<- Nat.add_assoc, dval_take_succ, hy, Nat.mul_add x, Nat.mul_add]
 omega
structure MulD (a b o : List Nat) (i : Nat) : Prop where
 len : o.length = a.length + b.length + 1
 lt : AllD o
 sum : dval o = dval (a.take i) * dval b
theorem MulD.start (a b : List Nat) : MulD a b (List.replicate (a.length + b.length + 1) 0) 0 :=
 ⟨by simp, AllD.replicate _, by rw [dval_replicate]; simp⟩
theorem MulD.total {a b o0 o : List Nat} {i k x c : Nat} (ha : AllD a) (hb : AllD b) (h : MulD a b o0 i) (hi : i < a.length) (hx : a[i]? = some x) (hr : RowD o0 o b i k x c) (hk : b.length <= k) :
 dval o + 256 ^ (i+k) * c = dval (a.take (i+1)) * dval b /\ dval (a.take (i+1)) * dval b < 256 ^ (i + 1 + b.length) := by
 constructor
 ·have h1 := hr.sum
  rw [List.take_of_length_le hk, h.sum] at h1
  have hx2 : a.getD i 0 = x := by rw [List.getD_eq_getElem?_getD, hx]; rfl
  rw [dval_take_succ, hx2, Nat.add_mul, Nat.mul_assoc]; exact h1
 ·have h1 := dval_lt (ha.take (i+1))
  have h2 : 256 ^ (a.take (i+1)).length <= 256 ^ (i+1) := Nat.pow_le_pow_right (by omega) (List.length_take_le _ _)
  rw [Nat.pow_add]
  exact Nat.mul_lt_mul'' (by omega) (dval_lt hb)
theorem MulD.bound {a b o0 o : List Nat} {i k x c : Nat} (ha : AllD a) (hb : AllD b) (h : MulD a b o0 i) (hi : i < a.length) (hx : a[i]? = some x) (hr : RowD o0 o b i k x c) (hk : b.length <= k) (hc : 0 < c) : k <= b.length := by
 obtain ⟨h1, h2⟩ := MulD.total ha hb h hi hx hr hk
 refine Classical.byContradiction fun hn => ?_
 have h3 : 256 ^ (i + 1 + b.length) <= 256 ^ (i+k) := Nat.pow_le_pow_right (by omega) (by omega)
 have h4 := Nat.mul_le_mul_left (256 ^ (i+k)) hc
 omega
theorem MulD.step {a b o0 o : List Nat} {i k x : Nat} (ha : AllD a) (hb : AllD b) (h : MulD a b o0 i) (hi : i < a.length) (hx : a[i]? = some x) (hr : RowD o0 o b i k x 0) (hk : b.length <= k) : MulD a b o (i+1) :=
 ⟨hr.len.trans h.len, hr.lt, by have := (MulD.total ha hb h hi hx hr hk).1; simpa using this⟩
theorem MulD.done {a b o : List Nat} (h : MulD a b o a.length) : dval o = dval a * dval b := by
 have h1 := h.sum
 rwa [List.take_of_length_le (Nat.le_refl _)] at h1
end Go.Proofs.YtncbebfhakcgdaaGreat
namespace Go.Proofs.YtncbebfhakcgdaaGreat
open Go.RowKit
def Src (w : World) (size : Nat) (v : Value) (m : Nat) (news : List Value) : Prop :=
 news.length = m * size /\ (∀ u ∈ news, u.oneCell' = true) /\ ((v = .slice none 0 0 /\ m = 0) ∨ ∃ ad c, v = .slice (some ad) m c /\ ∀ j u, news[j]? = some u -> w.cell? (ad.add j) = some u)
theorem Src.own {w : World} {B size m : Nat} {e : TypeId} {v : Value} {news : List Value} (h : w.ownsRow B e size v m news) (h1 : ∀ u ∈ news, u.oneCell' = true) : Src w size v m news := by
 obtain ⟨h2, h3⟩ := h
 refine ⟨h2, h1, ?_⟩
 rcases h3 with ⟨h3, h4⟩ | ⟨g, cap, cur, rfl, hb, hg, hn, hm, hs, ht⟩
 ·exact .inl ⟨h3, h4⟩
 ·refine .inr ⟨⟨g, 0, none⟩, cap, rfl, fun j u hj => ?_⟩
  rw [Go.WideShapes.add_plain, Nat.zero_add]
  have hr : Row w g e cur.toList := by unfold Row; simpa using hg
  refine hr.cell ?_
  rw [<- ht, List.getElem?_take] at hj
  split at hj
  ·exact hj
  ·cases hj
theorem Src.row {w : World} {G size m c : Nat} {t : TypeId} {news : List Value} (h : Row w G t news) (hl : news.length = m * size) (h1 : ∀ u ∈ news, u.oneCell' = true) : Src w size (.slice (some ⟨G, 0, none⟩) m c) m news :=
 ⟨hl, h1, .inr ⟨_, c, rfl, fun j u hj => by rw [Go.WideShapes.add_plain, Nat.zero_add]; exact h.cell hj⟩⟩
theorem Src.later {w w' : World} {size m : Nat} {v : Value} {news : List Value} (h : Src w size v m news) (hb : Later w w') : Src w' size v m news := by
 obtain ⟨h1, h2, h3⟩ := h
 refine ⟨h1, h2, ?_⟩
 rcases h3 with h3 | ⟨ad, c, rfl, h3⟩
 ·exact .inl h3
 ·exact .inr ⟨ad, c, rfl, fun j u hj => hb.cell (h3 j u hj)⟩
theorem wpList_append_src {P : Program} {w : World} {ops : Array Oper} {rest : List Oper} {o : Oper} {a : Act} {Q : Exit -> Act -> World -> Prop} (hgd : o.guard = none) (s x : Operand) (t : TypeId)
 (ho : o.op = .call { callee := .builtin .append, args := #[s, x], argTypes := #[t, t] })
 (base : Nat) (e : TypeId) (z : Value) (size bytes : Nat) (ht : P.underlying t = some (.slice e)) (hinfo : (P.info? e).map (fun i => (i.zero, i.size, i.bytes)) = some (some z, size, bytes))
 (hzs : z.cells.size = size) (hsz : 0 < size) (hby : bytes <= 1024)
 (v : Value) (n : Nat) (xs : List Value) (hs : a.eval s = v) (hown : w.ownsRow base e size v n xs)
 (vx : Value) (m : Nat) (news : List Value) (hx : a.eval x = vx) (hsrc : Src w size vx m news) (hnm : n + m <= 4000000000) (hbase : base <= w.heap.size)
 (h : ∀ v' w', w'.ownsRow base e size v' (n + m) (xs ++ news) -> w.grownBy w' v.ownBlock -> (v'.ownBlock = v.ownBlock ∨ v'.ownBlock = some w.heap.size) -> wpList P ops Q rest (a.put o.dst v') w') :
 wpList P ops Q (o :: rest) a w := by
 obtain ⟨i, hi, hz0, hz1, hz2⟩ := info_parts hinfo
 obtain ⟨hl, h1, hh⟩ := hsrc
 rcases hh with ⟨rfl, rfl⟩ | ⟨ad, c, rfl, hnews⟩
 ·have : news = [] := List.eq_nil_of_length_eq_zero (by simpa using hl)
  subst this
  refine wpList_append_own_none hgd s x t ho base e i size ht hi v n xs hs hown hx ?_
  exact h v w (by simpa using hown) (World.grownBy.refl w _) (.inl rfl)
 ·refine wpList_append_own_at _ hgd s x t ho base e i z size bytes ht hi hz0 hz1 hz2 hzs hsz v n xs hs hown ad m c news hx hl hnews h1 (by unfold maxLen; omega) ?_ hbase (fun v' w' h2 h3 _ h4 => h v' w' h2 h3 h4)
  have h5 : (n + m) * bytes <= 4000000000 * 1024 := Nat.mul_le_mul hnm hby
  omega
theorem Later.grew {w W W' : World} {e : TypeId} {size n : Nat} {v : Value} {xs : List Value} (hb : Later w W) (hown : W.ownsRow w.heap.size e size v n xs) (hg : W.grownBy W' v.ownBlock) : Later w W' :=
 hb.grown hg (fun k hk => (World.ownsRow.lt hown k hk).1)
end Go.Proofs.YtncbebfhakcgdaaGreat
