/- Fractions: by. -/
import Derived.Test.YtfokplidiboabaaGreatS4
set_option linter.unusedVariables false
set_option linter.unusedSimpArgs false
set_option maxRecDepth 100000
namespace Go.Proofs.YtfokplidiboabaaGreat
open Go.RowKit Go.Shelf
attribute [local go_sem ↓] Go.wp_at_zero Go.wp_at_succ
theorem by_law {x y : Int} (hy : 0 < y) {q : Rat} (hq : q = mkRat x y.toNat) {g : Nat} (hg : g = Nat.gcd x.natAbs y.natAbs) :
 sgn (decide (x < 0)) (x.natAbs / g) = q.num /\ sgn (decide (y < 0)) (y.natAbs / g) = (q.den : Int) /\ 0 < g := by
 have hn : y.natAbs = y.toNat := by omega
 have h0 : y.toNat ≠ 0 := by omega
 rw [hn] at hg ⊢
 have hgp : 0 < g := by rw [hg]; exact Nat.gcd_pos_of_pos_right _ (by omega)
 rw [hq, Rat.mkRat_def, dif_neg h0, Rat.num_normalize, Rat.den_normalize, <- hg]
 refine ⟨?_, ?_, hgp⟩
 ·obtain ⟨c, hc⟩ : g ∣ x.natAbs := by rw [hg]; exact Nat.gcd_dvd_left _ _
  rw [hc, Nat.mul_div_cancel_left _ hgp]
  by_cases hx : x < 0
  ·have : x = -((g : Int) * (c : Int)) := by have : (x.natAbs : Int) = (g : Int) * c := by rw [hc]; simp
                                             omega
   rw [show decide (x < 0) = true by simpa using hx, this, <- Int.mul_neg, Int.mul_ediv_cancel_left _ (by omega)]
   rfl
  ·have : x = ((g : Int) * (c : Int)) := by have : (x.natAbs : Int) = (g : Int) * c := by rw [hc]; simp
                                            omega
   rw [show decide (x < 0) = false by simpa using hx, this, Int.mul_ediv_cancel_left _ (by omega)]
   rfl
 ·rw [show decide (y < 0) = false by simp; omega]; rfl
theorem mkRat_one (x : Int) : (mkRat x 1).num = x /\ (mkRat x 1).den = 1 := by
 rw [Rat.mkRat_def, dif_neg (by omega), Rat.num_normalize, Rat.den_normalize]
 simp
def ByAt (w : World) (x y : Int) (wx : World) : Prop :=
 ∃ s A n c s' A' n' c', Row wx w.heap.size 34 [.bool s, .slice A n c] /\ Row wx (w.heap.size + 1) 34 [.bool s', .slice A' n' c'] /\
   Row wx (w.heap.size + 2) 36 [.bool false, .slice none 0 0, .bool false, .slice none 0 0] /\ OwnI wx (w.heap.size + 3) (.agg #[.bool s, .slice A n c]) x /\
   OwnI wx (w.heap.size + 3) (.agg #[.bool s', .slice A' n' c']) y /\ Later w wx /\ w.heap.size + 3 <= wx.heap.size
def ByPos (w : World) (k : Nat) (q : Rat) (wx : World) : Prop :=
 ∃ x y, 0 < y /\ q = mkRat x y.toNat /\ (limbs x.natAbs).length <= k /\ (limbs y.natAbs).length <= k /\ ByAt w x y wx
theorem by_stores {w W : World} {x y : Int} {s s' : Bool} {A A' : Option Addr} {n c n' c' : Nat} {a b a' b' : Value}
 (ra : Row W w.heap.size 34 [a, b]) (rb : Row W (w.heap.size + 1) 34 [a', b']) (rc : Row W (w.heap.size + 2) 36 [.bool false, .slice none 0 0, .bool false, .slice none 0 0])
 (ox : OwnI W (w.heap.size + 3) (.agg #[.bool s, .slice A n c]) x) (oy : OwnI W (w.heap.size + 3) (.agg #[.bool s', .slice A' n' c']) y) (hL : Later w W) (hs : w.heap.size + 3 <= W.heap.size) :
 ByAt w x y ((((W.setCell ⟨w.heap.size, 0, none⟩ (.bool s)).setCell ⟨w.heap.size, 1, none⟩ (.slice A n c)).setCell ⟨w.heap.size + 1, 0, none⟩ (.bool s')).setCell ⟨w.heap.size + 1, 1, none⟩ (.slice A' n' c')) /\
 ByAt w x y ((((W.setCell ⟨w.heap.size + 1, 0, none⟩ (.bool s')).setCell ⟨w.heap.size + 1, 1, none⟩ (.slice A' n' c')).setCell ⟨w.heap.size, 0, none⟩ (.bool s)).setCell ⟨w.heap.size, 1, none⟩ (.slice A n c)) := by
 constructor
 ·have o1 := Only.two w.heap.size W (.bool s) (.slice A n c)
  have r1 := ra.two (.bool s) (.slice A n c)
  obtain ⟨V, hV⟩ : ∃ V, V = (W.setCell ⟨w.heap.size, 0, none⟩ (.bool s)).setCell ⟨w.heap.size, 1, none⟩ (.slice A n c) := ⟨_, rfl⟩
  rw [<- hV] at o1 r1 ⊢
  have o2 := Only.two (w.heap.size + 1) V (.bool s') (.slice A' n' c')
  exact ⟨s, A, n, c, s', A', n', c', r1.only o2 (by omega), (rb.only o1 (by omega)).two _ _, (rc.only o1 (by omega)).only o2 (by omega), (ox.only o1 (by omega)).only o2 (by omega), (oy.only o1 (by omega)).only o2 (by omega), (hL.only o1 (by omega)).only o2 (by omega), by rw [o2.size, o1.size]; exact hs⟩
 ·have o1 := Only.two (w.heap.size + 1) W (.bool s') (.slice A' n' c')
  have r1 := rb.two (.bool s') (.slice A' n' c')
  obtain ⟨V, hV⟩ : ∃ V, V = (W.setCell ⟨w.heap.size + 1, 0, none⟩ (.bool s')).setCell ⟨w.heap.size + 1, 1, none⟩ (.slice A' n' c') := ⟨_, rfl⟩
  rw [<- hV] at o1 r1 ⊢
  have o2 := Only.two w.heap.size V (.bool s) (.slice A n c)
  exact ⟨s, A, n, c, s', A', n', c', (ra.only o1 (by omega)).two _ _, r1.only o2 (by omega), (rc.only o1 (by omega)).only o2 (by omega), (ox.only o1 (by omega)).only o2 (by omega), (oy.only o1 (by omega)).only o2 (by omega), (hL.only o1 (by omega)).only o2 (by omega), by rw [o2.size, o1.size]; exact hs⟩
theorem rawI_zero (w : World) (k : Nat) : RawI w (.agg #[.bool false, .slice none 0 0]) 0 k := ⟨false, none, 0, 0, [], rfl, U32s.nil w, rfl, Nat.zero_le _⟩
theorem divInt_neg_pos {x y : Int} (hy : y < 0) : Rat.divInt x y = mkRat (0 - x) (0 - y).toNat := by
 have h : y = -((0 - y).toNat : Int) := by omega
 conv => lhs; rw [h]
 obtain ⟨m, hm⟩ : ∃ m, (0 - y).toNat = m + 1 := ⟨(0 - y).toNat - 1, by omega⟩
 rw [hm, Int.zero_sub]; rfl
theorem divInt_pos {x y : Int} (hy : 0 < y) : Rat.divInt x y = mkRat x y.toNat := by
 have h : y = (y.toNat : Int) := by omega
 conv => lhs; rw [h]
 rfl
set_option maxHeartbeats 4000000 in
theorem by_calls (w : World) (va vb : Value) (x y : Int) (k : Nat) (hx : RawI w va x k) (hy : RawI w vb y k) (hk : k <= 400000000) (hy0 : y ≠ 0) (q : Rat) (hq : q = Rat.divInt x y) :
 Calls Tryz.prog 134 #[va, vb] w (Ret w fun w' v => OwnR w' w.heap.size v q) := by
 have hlx := hx.limbs_le
 have hly := hy.limbs_le
 have HX := hide hx; have HY := hide hy; have HQ := hide hq
 obtain ⟨n1, A1, m1, c1, rfl⟩ := hx.open_
 obtain ⟨n2, A2, m2, c2, rfl⟩ := hy.open_
 clear hx hy hq
 go_enter Tryz.func134, Tryz.ntmps134
 go_upto_region 1 with fail
 go_cut [] (fun wx => ByAt w x y wx)
 case first =>
  obtain ⟨W0, hW0⟩ : ∃ W0, W0 = (((w.alloc (Obj.cells #[Value.bool n1, Value.slice A1 m1 c1] 34)).alloc (Obj.cells #[Value.bool n2, Value.slice A2 m2 c2] 34)).alloc (Obj.cells #[Value.bool false, Value.slice none 0 0, Value.bool false, Value.slice none 0 0] 36)) := ⟨_, rfl⟩
  obtain ⟨hb0, r1, r2, r3, hsz⟩ := boxes3 w [.bool n1, .slice A1 m1 c1] [.bool n2, .slice A2 m2 c2] [.bool false, .slice none 0 0, .bool false, .slice none 0 0] 34 34 36 hW0
  rw [<- hW0]
  have hb0 := hb0.drew; have r1 := r1.drew; have r2 := r2.drew; have r3 := r3.drew
  obtain ⟨d1, d2, d3, d4⟩ := row_cells2 r1
  obtain ⟨d5, d6, d7, d8⟩ := row_cells2 r2
  have hsz : W0.drew.heap.size = w.heap.size + 3 := hsz
  have R1 := hide r1; have R2 := hide r2; have R3 := hide r3; have B0 := hide hb0
  clear hW0 r1 r2 r3 hb0
  go_region_with (first
   | ((with_reducible refine (plain_calls _ _ x k (HX.out.later B0.out) (by omega)).mono ?_); rintro e w1 ⟨v1, rfl, o1, b1⟩; obtain ⟨s1, P1, q1, e1, rfl, o1⟩ := o1.open_; have O1 := hide o1; clear o1; obtain ⟨i1, i2, i3, i4⟩ := row_cells2 (R1.out.later b1); obtain ⟨i5, i6, i7, i8⟩ := row_cells2 (R2.out.later b1))
   | ((with_reducible refine (plain_calls _ _ y k (HY.out.later (B0.out.trans b1)) (by omega)).mono ?_); rintro e w2 ⟨v2, rfl, o2, b2⟩; obtain ⟨s2, P2, q2, e2, rfl, o2⟩ := o2.open_; have O2 := hide o2; clear o2; obtain ⟨g1, g2, g3, g4⟩ := row_cells2 (R1.out.later (b1.trans b2)); obtain ⟨g5, g6, g7, g8⟩ := row_cells2 (R2.out.later (b1.trans b2))))
  all_goals
   have hb := b1.trans b2
   have hs1 := b1.size
   have hs2 := hb.size
   have hS := by_stores (R1.out.later hb) (R2.out.later hb) (R3.out.later hb) ((O1.out.later b2).weaken (by omega)) (O2.out.weaken (by omega)) (B0.out.trans hb) (by omega)
   have HS := hide hS
   clear hS
   go_wp2_with fail
   go_meet
   first | exact HS.out.1 | exact HS.out.2
 case rest =>
  obtain ⟨s, A, n, c, s', A', n', c', r1, r2, r3, ox, oy, hL, hsz⟩ := hcut
  obtain ⟨d1, d2, d3, d4⟩ := row_cells2 r1
  obtain ⟨d5, d6, d7, d8⟩ := row_cells2 r2
  have R1 := hide r1; have R2 := hide r2; have R3 := hide r3; have OX := hide ox; have OY := hide oy
  have HS := hide oy.sign
  clear HX HY r1 r2 r3 ox oy
  go_upto_if 12 with fail
  go_cut [] (fun wx => ByPos w (k+1) q wx)
  case first =>
   by_cases hneg : y < 0
   ·have hs' : s' = true := by rw [HS.out]; simpa using hneg
    subst hs'
    have hrx := hide (OX.out.raw hlx); have hry := hide (OY.out.raw hly)
    have D0 := hide ((Later.refl wc).drew)
    have r1 := R1.out.drew; have r2 := R2.out.drew
    have R1d := hide r1; have R2d := hide r2
    obtain ⟨p1, p2, p3, p4⟩ := row_cells2 r1
    obtain ⟨p5, p6, p7, p8⟩ := row_cells2 r2
    have hszd : w.heap.size + 3 <= wc.drew.heap.size := hsz
    clear r1 r2
    go_wp2_with fail
    go_region_with (first
     | ((with_reducible refine (wsub_calls _ _ _ 0 x 0 k (rawI_zero _ _) (hrx.out.later D0.out) (by omega) (by omega)).mono ?_); rintro e w1 ⟨v1, rfl, o1, b1⟩; obtain ⟨s1, P1, q1, e1, rfl, o1⟩ := o1.open_; have O1 := hide o1; clear o1; obtain ⟨i1, i2, i3, i4⟩ := row_cells2 (R1d.out.later b1); obtain ⟨i5, i6, i7, i8⟩ := row_cells2 (R2d.out.later b1))
     | ((with_reducible refine (wsub_calls _ _ _ 0 y 0 k (rawI_zero _ _) (hry.out.later (D0.out.trans b1)) (by omega) (by omega)).mono ?_); rintro e w2 ⟨v2, rfl, o2, b2⟩; obtain ⟨s2, P2, q2, e2, rfl, o2⟩ := o2.open_; have O2 := hide o2; clear o2; obtain ⟨g1, g2, g3, g4⟩ := row_cells2 (R1d.out.later (b1.trans b2)); obtain ⟨g5, g6, g7, g8⟩ := row_cells2 (R2d.out.later (b1.trans b2))))
    all_goals
     have hb := b1.trans b2
     have hs1 := b1.size
     have hs2 := hb.size
     have hS := by_stores (R1d.out.later hb) (R2d.out.later hb) (R3.out.drew.later hb) ((O1.out.later b2).weaken (by omega)) (O2.out.weaken (by omega)) (hL.drew.trans hb) (by omega)
     have HS := hide hS
     have hP : ∀ wx, ByAt w (0 - x) (0 - y) wx -> ByPos w (k+1) q wx := fun wx h => ⟨0 - x, 0 - y, by omega, by rw [HQ.out, divInt_neg_pos hneg], by rw [Int.zero_sub, Int.natAbs_neg]; omega, by rw [Int.zero_sub, Int.natAbs_neg]; omega, h⟩
     have HP := hide hP
     clear hS hP
     go_wp2_with fail
     go_meet
     first | exact HP.out _ HS.out.1 | exact HP.out _ HS.out.2
   ·have hs' : s' = false := by rw [HS.out]; simpa using hneg
    subst hs'
    go_wp2_with fail
    go_meet
    exact ⟨x, y, by omega, by rw [HQ.out, divInt_pos (by omega)], by omega, by omega, ⟨_, _, _, _, _, _, _, _, R1.out, R2.out, R3.out, OX.out, OY.out, hL, hsz⟩⟩
  case rest =>
   clear R1 R2 R3 OX OY HS HQ d1 d2 d3 d4 d5 d6 d7 d8 hlx hly hy0 hL hsz
   obtain ⟨x', y', hpos, hq, hlx, hly, s, A, n, c, s', A', n', c', r1, r2, r3, ox, oy, hL, hsz⟩ := hcut
   have hs' : s' = false := by rw [oy.sign]; simp; omega
   subst hs'
   obtain ⟨d1, d2, d3, d4⟩ := row_cells2 r1
   obtain ⟨d5, d6, d7, d8⟩ := row_cells2 r2
   obtain ⟨d9, d10, d11, d12, d13, d14, d15, d16⟩ := row_cells4 r3
   have R1 := hide r1; have R2 := hide r2; have R3 := hide r3; have OX := hide ox; have OY := hide oy; have HQ := hide hq
   have HN := hide oy.len
   clear r1 r2 r3 ox oy hq
   obtain ⟨one, hone⟩ : ∃ b : Bool, b = decide (y' = 1) := ⟨_, rfl⟩
   have HONE := hide hone
   clear hone
   go_upto_region 4 with fail
   go_cut [29] (fun t wx => t = .bool one /\ wx = wc)
   case first =>
    by_cases h1 : n' = 1
    ·subst h1
     obtain ⟨h6, h4, h5⟩ := limbs_of_one HN.out.symm
     obtain ⟨A3, c3, f3, -, -, -, hcc⟩ := OY.out.own.reads.form
     injection f3 with f4 f5 f6
     subst f4 f6
     rw [h6] at hcc
     obtain ⟨b2, ob2, rfl, hcc2⟩ := hcc.at_ (k := 0) (by simp [nums])
     have hcl := hcc2 0 (.int .u32 (y'.natAbs : Int)) rfl
     simp only [Nat.add_zero] at hcl
     clear hcc hcc2 f5 h6
     have ht : (((y'.natAbs : Nat) : Int) == 1) = one := by rw [HONE.out, Bool.eq_iff_iff]; simp; omega
     have HT := hide ht
     clear ht
     go_wp2_with fail
     go_meet
     exact ⟨by rw [HT.out], rfl⟩
    ·have t1 : ((n' : Int) == 1) = false := by simp; omega
     have ht : one = false := by
      rw [HONE.out]; simp; intro e; apply h1; rw [HN.out, e]; show (limbs 1).length = 1; rw [limbs_pos (by omega), limbs_zero]; rfl
     have HT := hide ht
     clear ht
     go_wp2_with fail
     go_meet
     exact ⟨by rw [HT.out], rfl⟩
   case rest =>
    obtain ⟨rfl, rfl⟩ := hcut
    cases one
    case true =>
     have hy1 : y' = 1 := by have := HONE.out; simpa using this.symm
     have h9 : q.num = x' /\ q.den = 1 := by
      rw [HQ.out, hy1]; exact mkRat_one x'
     have H9 := hide h9
     clear h9 hy1
     go_wp2_with fail
     refine bodyPost_ret (results_rat rfl rfl (R3.out.four _ _ _ _)) rfl ?_
     have oo := Only.four (w.heap.size + 2) wc (.bool s) (.slice A n c) (.bool false) (.slice A' n' c')
     refine ⟨_, rfl, OwnR.weaken (OwnR.mk_ ?_ ?_) (by omega : w.heap.size <= w.heap.size + 3), hL.only oo (by omega)⟩
     ·rw [H9.out.1]; exact OX.out.only oo (by omega)
     ·rw [H9.out.2]
      have e1 : y'.natAbs = 1 := by have := HONE.out; simp at this; omega
      have := (OY.out.only oo (by omega)).own
      rw [e1] at this; exact this
    case false =>
     have hrx := hide (OX.out.raw hlx); have hry := hide (OY.out.raw hly)
     go_wp2_with fail
     refine (gcd_calls _ _ _ _ _ OX.out.own.reads OY.out.own.reads (by omega) (by omega)).mono ?_
     rintro e w1 ⟨gv, rfl, og, b1⟩
     rw [val_limbs, val_limbs] at og
     obtain ⟨g, hg⟩ : ∃ g, g = Nat.gcd x'.natAbs y'.natAbs := ⟨_, rfl⟩
     rw [<- hg] at og
     obtain ⟨z1, z2, hgp⟩ := by_law hpos HQ.out hg
     have hgl : (limbs g).length <= k + 1 := Nat.le_trans (length_limbs_mono (by rw [hg]; exact Nat.gcd_le_right _ (by omega))) hly
     obtain ⟨G, g1, g2, rfl⟩ : ∃ Q q3 q4, gv = .slice Q q3 q4 := by
      obtain ⟨Q, cq, e, -⟩ := og.reads.form; exact ⟨Q, _, cq, e⟩
     clear d1 d2 d3 d4 d5 d6 d7 d8 d9 d10 d11 d12 d13 d14 d15 d16
     obtain ⟨d1, d2, d3, d4⟩ := row_cells2 (R1.out.later b1)
     obtain ⟨d5, d6, d7, d8⟩ := row_cells2 (R2.out.later b1)
     obtain ⟨d9, d10, d11, d12, d13, d14, d15, d16⟩ := row_cells4 (R3.out.later b1)
     have HZ1 := hide z1; have HZ2 := hide z2; have OG := hide og.reads
     clear z1 z2 hg og
     go_upto_region 8 with fail
     obtain ⟨W1, hW1⟩ : ∃ W1, W1 = w1.alloc (Obj.cells #[Value.bool false, Value.slice G g1 g2] 34) := ⟨_, rfl⟩
     have hb1 : Later wc W1 := by rw [hW1]; exact b1.alloc _
     have hb2 : Later w1 W1 := by rw [hW1]; exact (Later.refl w1).alloc _
     have hrg : Row W1 w1.heap.size 34 [.bool false, .slice G g1 g2] := by rw [hW1]; exact Row.new w1 34 [.bool false, .slice G g1 g2]
     rw [<- hW1]
     clear hW1 d1 d2 d3 d4 d5 d6 d7 d8 d9 d10 d11 d12 d13 d14 d15 d16
     have HEX : Hid (∀ W', Later W1.drew W' -> Calls Tryz.prog 204 #[.agg #[.bool s, .slice A n c], .pointer (some ⟨w1.heap.size, 0, none⟩)] W' (Ret W' fun w' v => OwnI w' W'.heap.size v q.num)) := hide fun W' hb =>
      exact_calls W' _ x' (k+1) g w1.heap.size 0 none G g1 g2 (hrx.out.later (hb1.drew.trans hb)) hgp (hrg.drew.later hb) (OG.out.later (hb2.drew.trans hb)) (by omega) (by omega) q.num HZ1.out
     have HEY : Hid (∀ W', Later W1.drew W' -> Calls Tryz.prog 204 #[.agg #[.bool false, .slice A' n' c'], .pointer (some ⟨w1.heap.size, 0, none⟩)] W' (Ret W' fun w' v => ∃ A n c, v = .agg #[.bool false, .slice A n c] /\ Own32 160 w' W'.heap.size (.slice A n c) (limbs q.den))) := hide fun W' hb => by
      refine (exact_calls W' _ y' (k+1) g w1.heap.size 0 none G g1 g2 (hry.out.later (hb1.drew.trans hb)) hgp (hrg.drew.later hb) (OG.out.later (hb2.drew.trans hb)) (by omega) (by omega) (q.den : Int) HZ2.out).mono ?_
      rintro e w' ⟨v, rfl, o, b⟩
      obtain ⟨s3, A3, n3, c3, rfl, o⟩ := o.open_
      have : s3 = false := by rw [o.sign]; simp
      subst this
      exact ⟨_, rfl, ⟨_, _, _, rfl, o.own⟩, b⟩
     have r1 := R1.out.later hb1.drew; have r2 := R2.out.later hb1.drew; have r3 := R3.out.later hb1.drew
     have R1 := hide r1; have R2 := hide r2; have R3 := hide r3
     have HT1 : Hid (∀ w', Later W1.drew w' -> w'.cell? ⟨w.heap.size, 0, none⟩ = some (.bool s) /\ w'.cell? ⟨w.heap.size, 1, none⟩ = some (.slice A n c) /\ w'.cell? ⟨w.heap.size + 1, 0, none⟩ = some (.bool false) /\ w'.cell? ⟨w.heap.size + 1, 1, none⟩ = some (.slice A' n' c')) :=
      hide fun w' hb => ⟨(r1.later hb).cell rfl, (r1.later hb).cell rfl, (r2.later hb).cell rfl, (r2.later hb).cell rfl⟩
     have HT2 : Hid (∀ w' a b c1 d, Later W1.drew w' -> ((((w'.setCell ⟨w.heap.size + 2, 0, none⟩ a).setCell ⟨w.heap.size + 2, 1, none⟩ b).setCell ⟨w.heap.size + 2, 2, none⟩ c1).setCell ⟨w.heap.size + 2, 3, none⟩ d).cell? ⟨w.heap.size, 0, none⟩ = some (.bool s) /\ ((((w'.setCell ⟨w.heap.size + 2, 0, none⟩ a).setCell ⟨w.heap.size + 2, 1, none⟩ b).setCell ⟨w.heap.size + 2, 2, none⟩ c1).setCell ⟨w.heap.size + 2, 3, none⟩ d).cell? ⟨w.heap.size, 1, none⟩ = some (.slice A n c) /\ ((((w'.setCell ⟨w.heap.size + 2, 0, none⟩ a).setCell ⟨w.heap.size + 2, 1, none⟩ b).setCell ⟨w.heap.size + 2, 2, none⟩ c1).setCell ⟨w.heap.size + 2, 3, none⟩ d).cell? ⟨w.heap.size + 1, 0, none⟩ = some (.bool false) /\ ((((w'.setCell ⟨w.heap.size + 2, 0, none⟩ a).setCell ⟨w.heap.size + 2, 1, none⟩ b).setCell ⟨w.heap.size + 2, 2, none⟩ c1).setCell ⟨w.heap.size + 2, 3, none⟩ d).cell? ⟨w.heap.size + 1, 1, none⟩ = some (.slice A' n' c')) :=
      hide fun w' a b c1 d hb => ⟨((r1.later hb).far4 (by omega) a b c1 d).cell rfl, ((r1.later hb).far4 (by omega) a b c1 d).cell rfl, ((r2.later hb).far4 (by omega) a b c1 d).cell rfl, ((r2.later hb).far4 (by omega) a b c1 d).cell rfl⟩
     have HB1 := hide hb1.drew
     have hs0 := HB1.out.size
     clear hb1 hb2 hrg OG r1 r2 r3
     rename_i K2 hK2
     go_region_held3 (fun w' => w'.cell? ⟨w.heap.size, 0, none⟩ = some (.bool s) /\ w'.cell? ⟨w.heap.size, 1, none⟩ = some (.slice A n c) /\ w'.cell? ⟨w.heap.size + 1, 0, none⟩ = some (.bool false) /\ w'.cell? ⟨w.heap.size + 1, 1, none⟩ = some (.slice A' n' c'))
      (first | exact HT1.out _ (Later.refl _) | exact HT1.out _ b3 | exact HT1.out _ (b3.trans b4) | exact HT2.out _ _ _ _ _ (b3.trans b4))
      (first
       | ((with_reducible refine (HEX.out _ (Later.refl _)).mono ?_); rintro e w3 ⟨v3, rfl, o3, b3⟩; obtain ⟨s3, Q1, q3, q4, rfl, o3⟩ := o3.open_; have O3 := hide o3; clear o3)
       | ((with_reducible refine (HEY.out _ b3).mono ?_); rintro e w4 ⟨v4, rfl, o4, b4⟩; obtain ⟨Q2, q5, q6, rfl, o4⟩ := o4; have O4 := hide o4; clear o4; obtain ⟨e1, e2, e3, e4, e5, e6, e7, e8⟩ := row_cells4 (R3.out.later (b3.trans b4))))
     show K2 _ _
     refine hK2 _ _ ?_
     have hb := b3.trans b4
     have hrow := R3.out.later hb
     have hs3 := b3.size
     clear e1 e2 e3 e4 e5 e6 e7 e8 hK2
     go_wp2_with fail
     refine bodyPost_ret (results_rat rfl rfl (hrow.four _ _ _ _)) rfl ?_
     have oo := Only.four (w.heap.size + 2) w4 (.bool s3) (.slice Q1 q3 q4) (.bool false) (.slice Q2 q5 q6)
     refine ⟨_, rfl, OwnR.weaken (OwnR.mk_ (B := w.heap.size + 3) ?_ ?_) (by omega), (hL.trans (HB1.out.trans hb)).only oo (by omega)⟩
     ·exact ((O3.out.later b4).only oo (by omega)).weaken (by omega)
     ·exact (O4.out.only oo (by omega)).weaken (by omega)
end Go.Proofs.YtfokplidiboabaaGreat
namespace Go.Proofs.YtfokplidiboabaaGreat
theorem den_ne (a : Rat) : (a.den : Rat) ≠ 0 := by have := a.den_nz; simpa using this
theorem num_eq (a : Rat) : (a.num : Rat) = a * (a.den : Rat) := by
 have h := Rat.mkRat_self a
 rw [Rat.mkRat_eq_div] at h
 have h2 := den_ne a
 grind
theorem ratOf_add (a b : Rat) : Rat.divInt (a.num * b.den + b.num * a.den) (a.den * b.den) = a + b := by
 rw [Rat.divInt_eq_div]
 simp only [Rat.intCast_add, Rat.intCast_mul, Rat.intCast_natCast, num_eq]
 have := den_ne a; have := den_ne b
 grind
theorem ratOf_sub (a b : Rat) : Rat.divInt (a.num * b.den - b.num * a.den) (a.den * b.den) = a - b := by
 rw [Rat.divInt_eq_div]
 simp only [Rat.intCast_sub, Rat.intCast_mul, Rat.intCast_natCast, num_eq]
 have := den_ne a; have := den_ne b
 grind
theorem ratOf_mul (a b : Rat) : Rat.divInt (a.num * b.num) (a.den * b.den) = a * b := by
 rw [Rat.divInt_eq_div]
 simp only [Rat.intCast_mul, Rat.intCast_natCast, num_eq]
 have := den_ne a; have := den_ne b
 grind
theorem ratOf_div (a b : Rat) : Rat.divInt (a.num * b.den) (a.den * b.num) = a / b := by
 rw [Rat.divInt_eq_div]
 simp only [Rat.intCast_mul, Rat.intCast_natCast, num_eq]
 have := den_ne a; have := den_ne b
 by_cases h : b = 0
 ·subst h; simp [Rat.div_def]
 ·grind
def cmpQ (a b : Rat) : Int := if a < b then -1 else if b < a then 1 else 0
theorem cmpQ_eq (a b : Rat) : cmpQ a b = if a.num * b.den < b.num * a.den then -1 else if b.num * a.den < a.num * b.den then 1 else 0 := by
 unfold cmpQ; simp only [Rat.lt_iff]
theorem divInt_parts {x y : Int} (hy : y ≠ 0) : (Rat.divInt x y).num.natAbs <= x.natAbs /\ (Rat.divInt x y).den <= y.natAbs := by
 have key : ∀ (x : Int) (n : Nat), n ≠ 0 -> (mkRat x n).num.natAbs <= x.natAbs /\ (mkRat x n).den <= n := by
  intro x n hn
  rw [Rat.mkRat_def, dif_neg hn, Rat.num_normalize, Rat.den_normalize]
  refine ⟨?_, Nat.div_le_self _ _⟩
  exact Int.natAbs_ediv_le_natAbs _ _
 rcases Int.lt_or_gt_of_ne hy with h | h
 ·have h1 : y = -((-y).toNat : Int) := by omega
  obtain ⟨m, hm⟩ : ∃ m, (-y).toNat = m + 1 := ⟨(-y).toNat - 1, by omega⟩
  have h2 := key (-x) (m+1) (by omega)
  rw [Int.natAbs_neg] at h2
  have h3 : Rat.divInt x y = mkRat (-x) (m+1) := by
   conv => lhs; rw [h1, hm]
   rfl
  rw [h3]; exact ⟨h2.1, by omega⟩
 ·have h1 : y = (y.toNat : Int) := by omega
  have h2 := key x y.toNat (by omega)
  have h3 : Rat.divInt x y = mkRat x y.toNat := by
   conv => lhs; rw [h1]
   rfl
  rw [h3]; exact ⟨h2.1, by omega⟩
theorem Sized.mono {q : Rat} {k m : Nat} (h : Sized q k) (hm : k <= m) : Sized q m := ⟨Nat.le_trans h.1 hm, Nat.le_trans h.2 hm⟩
theorem sized_divInt {x y : Int} {k : Nat} (hy : y ≠ 0) (hx : (limbs x.natAbs).length <= k) (hy' : (limbs y.natAbs).length <= k) : Sized (Rat.divInt x y) k := by
 have h := divInt_parts (x := x) hy
 exact ⟨Nat.le_trans (length_limbs_mono h.1) hx, Nat.le_trans (length_limbs_mono h.2) hy'⟩
theorem limbs_add_len1 {a b : Nat} {k : Nat} (ha : (limbs a).length <= k) (hb : (limbs b).length <= k) : (limbs (a + b)).length <= k + 1 := by
 refine length_limbs_le ?_
 have h1 := Nat.lt_of_lt_of_le (lt_of_length_limbs a) (Nat.pow_le_pow_right (by omega) ha)
 have h2 := Nat.lt_of_lt_of_le (lt_of_length_limbs b) (Nat.pow_le_pow_right (by omega) hb)
 rw [Nat.pow_succ]; omega
theorem limbs_mulZ {a b : Int} {k m : Nat} (ha : (limbs a.natAbs).length <= k) (hb : (limbs b.natAbs).length <= m) : (limbs (a * b).natAbs).length <= k + m := by
 rw [Int.natAbs_mul]; exact limbs_mul_len ha hb
theorem limbs_addZ {a b : Int} {k : Nat} (ha : (limbs a.natAbs).length <= k) (hb : (limbs b.natAbs).length <= k) : (limbs (a + b).natAbs).length <= k + 1 :=
 Nat.le_trans (length_limbs_mono (Int.natAbs_add_le a b)) (limbs_add_len1 ha hb)
theorem limbs_subZ {a b : Int} {k : Nat} (ha : (limbs a.natAbs).length <= k) (hb : (limbs b.natAbs).length <= k) : (limbs (a - b).natAbs).length <= k + 1 := by
 rw [Int.sub_eq_add_neg]; exact limbs_addZ ha (by rw [Int.natAbs_neg]; exact hb)
theorem limbs_castZ {n : Nat} {k : Nat} (h : (limbs n).length <= k) : (limbs (n : Int).natAbs).length <= k := by rw [Int.natAbs_natCast]; exact h
theorem den_mul_ne (a b : Rat) : ((a.den : Int) * (b.den : Int)) ≠ 0 := by
 have h1 := a.den_nz; have h2 := b.den_nz
 intro h; rcases Int.mul_eq_zero.1 h with h | h <;> omega
theorem Sized.add {a b : Rat} {k m : Nat} (ha : Sized a k) (hb : Sized b m) : Sized (a + b) (k + m + 1) := by
 rw [<- ratOf_add]
 refine sized_divInt (den_mul_ne a b) (limbs_addZ (k := k + m) (limbs_mulZ ha.1 (limbs_castZ hb.2)) ?_) (Nat.le_succ_of_le (limbs_mulZ (limbs_castZ ha.2) (limbs_castZ hb.2)))
 rw [Nat.add_comm]; exact limbs_mulZ hb.1 (limbs_castZ ha.2)
theorem Sized.sub {a b : Rat} {k m : Nat} (ha : Sized a k) (hb : Sized b m) : Sized (a - b) (k + m + 1) := by
 rw [<- ratOf_sub]
 refine sized_divInt (den_mul_ne a b) (limbs_subZ (k := k + m) (limbs_mulZ ha.1 (limbs_castZ hb.2)) ?_) (Nat.le_succ_of_le (limbs_mulZ (limbs_castZ ha.2) (limbs_castZ hb.2)))
 rw [Nat.add_comm]; exact limbs_mulZ hb.1 (limbs_castZ ha.2)
theorem Sized.mul {a b : Rat} {k m : Nat} (ha : Sized a k) (hb : Sized b m) : Sized (a * b) (k + m) := by
 rw [<- ratOf_mul]
 exact sized_divInt (den_mul_ne a b) (limbs_mulZ ha.1 hb.1) (limbs_mulZ (limbs_castZ ha.2) (limbs_castZ hb.2))
theorem Sized.zero (k : Nat) : Sized 0 (k+1) := by
 constructor
 ·show (limbs 0).length <= k+1; rw [limbs_zero]; simp
 ·show (limbs 1).length <= k+1; rw [limbs_pos (by omega), limbs_zero]; simp
theorem Sized.div {a b : Rat} {k m : Nat} (ha : Sized a k) (hb : Sized b m) : Sized (a / b) (k + m + 1) := by
 by_cases h : b = 0
 ·subst h; rw [show a / 0 = 0 by simp [Rat.div_def]]; exact Sized.zero _
 ·rw [<- ratOf_div]
  refine (sized_divInt ?_ (limbs_mulZ ha.1 (limbs_castZ hb.2)) (limbs_mulZ (limbs_castZ ha.2) hb.1)).mono (by omega)
  intro h0
  have := a.den_nz
  rcases Int.mul_eq_zero.1 h0 with h0 | h0
  ·omega
  ·exact h (Rat.num_eq_zero.1 h0)
theorem ratOf_pos {x y : Int} (h : 0 < y) : ratOf x y = Rat.divInt x y := by
 unfold ratOf; rw [if_pos h]
 have h1 : y = (y.toNat : Int) := by omega
 conv => rhs; rw [h1]
 rfl
theorem ratOf_not {x y : Int} (h : ¬ 0 < y) : ratOf x y = 0 := by unfold ratOf; rw [if_neg h]
theorem sized_ratOf {x y : Int} {k : Nat} (hx : (limbs x.natAbs).length <= k) (hy : (limbs y.natAbs).length <= k) : Sized (ratOf x y) (k+1) := by
 by_cases h : 0 < y
 ·rw [ratOf_pos h]; exact (sized_divInt (by omega) hx hy).mono (by omega)
 ·rw [ratOf_not h]; exact Sized.zero k
end Go.Proofs.YtfokplidiboabaaGreat
namespace Go.Proofs.YtfokplidiboabaaGreat
open Go.RowKit Go.Shelf
attribute [local go_sem ↓] Go.wp_at_zero Go.wp_at_succ
def PlnR (w : World) (v : Value) (q : Rat) (k : Nat) : Prop :=
 ∃ s A n c s' A' n' c', v = .agg #[.bool s, .slice A n c, .bool s', .slice A' n' c'] /\ RawI w (.agg #[.bool s, .slice A n c]) q.num k /\ RawI w (.agg #[.bool s', .slice A' n' c']) q.den k
theorem PlnR.later {w w' : World} {v : Value} {q : Rat} {k : Nat} (h : PlnR w v q k) (hb : Later w w') : PlnR w' v q k := by
 obtain ⟨s, A, n, c, s', A', n', c', e, h1, h2⟩ := h; exact ⟨s, A, n, c, s', A', n', c', e, h1.later hb, h2.later hb⟩
theorem OwnR.pln {w : World} {B : Nat} {v : Value} {q : Rat} {k : Nat} (h : OwnR w B v q) (hk : Sized q k) : PlnR w v q k := by
 obtain ⟨s, A, n, c, A', n', c', rfl, h⟩ := h.open_
 exact ⟨s, A, n, c, false, A', n', c', rfl, h.num.raw hk.1, h.den.raw (limbs_castZ hk.2)⟩
theorem PlnR.sized {w : World} {v : Value} {q : Rat} {k : Nat} (h : PlnR w v q k) : Sized q k := by
 obtain ⟨s, A, n, c, s', A', n', c', e, h1, h2⟩ := h
 exact ⟨h1.limbs_le, by have := h2.limbs_le; rwa [Int.natAbs_natCast] at this⟩
set_option maxHeartbeats 2000000 in
theorem rmul1_calls (w : World) (va vb : Value) (a b : Rat) (k m : Nat) (ha : PlnR w va a k) (hb : PlnR w vb b m) (hkm : k + m <= 300000000) :
 Calls Tryz.prog 141 #[va, vb] w (Ret w fun w' v => OwnR w' w.heap.size v (a * b)) := by
 have hA := ha.sized; have hB := hb.sized
 obtain ⟨sa, A1, n1, c1, sa', A1', n1', c1', rfl, ha1, ha2⟩ := ha
 obtain ⟨sb, A2, n2, c2, sb', A2', n2', c2', rfl, hb1, hb2⟩ := hb
 obtain ⟨q, hq⟩ : ∃ q, q = a * b := ⟨_, rfl⟩
 rw [<- hq]
 have hq2 := ratOf_mul a b
 rw [<- hq] at hq2
 have HQ := hide hq2.symm
 obtain ⟨x1, hx1⟩ : ∃ x, x = a.num := ⟨_, rfl⟩
 obtain ⟨x2, hx2⟩ : ∃ x, x = (a.den : Int) := ⟨_, rfl⟩
 obtain ⟨y1, hy1⟩ : ∃ x, x = b.num := ⟨_, rfl⟩
 obtain ⟨y2, hy2⟩ : ∃ x, x = (b.den : Int) := ⟨_, rfl⟩
 have hne : x2 * y2 ≠ 0 := by rw [hx2, hy2]; exact den_mul_ne a b
 rw [<- hx1, <- hx2, <- hy1, <- hy2] at HQ
 rw [<- hx1] at ha1; rw [<- hx2] at ha2; rw [<- hy1] at hb1; rw [<- hy2] at hb2
 have HA1 := hide ha1; have HA2 := hide ha2; have HB1 := hide hb1; have HB2 := hide hb2; have HNE := hide hne
 have SA1 := ha1.limbs_le; have SA2 := ha2.limbs_le; have SB1 := hb1.limbs_le; have SB2 := hb2.limbs_le
 clear hq hq2 hx1 hx2 hy1 hy2 ha1 ha2 hb1 hb2 hA hB hne
 go_enter Tryz.func141, Tryz.ntmps141
 go_upto_region 1 with fail
 obtain ⟨W0, hW0⟩ : ∃ W0, W0 = (((w.alloc (Obj.cells #[Value.bool sa, Value.slice A1 n1 c1, Value.bool sa', Value.slice A1' n1' c1'] 36)).alloc (Obj.cells #[Value.bool sb, Value.slice A2 n2 c2, Value.bool sb', Value.slice A2' n2' c2'] 36)).alloc (Obj.cells #[Value.bool false, Value.slice none 0 0, Value.bool false, Value.slice none 0 0] 36)) := ⟨_, rfl⟩
 obtain ⟨hb0, r1, r2, r3, hsz⟩ := boxes3 w [.bool sa, .slice A1 n1 c1, .bool sa', .slice A1' n1' c1'] [.bool sb, .slice A2 n2 c2, .bool sb', .slice A2' n2' c2'] [.bool false, .slice none 0 0, .bool false, .slice none 0 0] 36 36 36 hW0
 rw [<- hW0]
 have hb0 := hb0.drew; have r1 := r1.drew; have r2 := r2.drew; have r3 := r3.drew
 have hsz : W0.drew.heap.size = w.heap.size + 3 := hsz
 have R3 := hide r3; have B0 := hide hb0
 have HT1 : Hid (∀ w', Later W0.drew w' -> w'.cell? ⟨w.heap.size, 0, none⟩ = some (.bool sa) /\ w'.cell? ⟨w.heap.size, 1, none⟩ = some (.slice A1 n1 c1) /\ w'.cell? ⟨w.heap.size, 2, none⟩ = some (.bool sa') /\ w'.cell? ⟨w.heap.size, 3, none⟩ = some (.slice A1' n1' c1') /\ w'.cell? ⟨w.heap.size + 1, 0, none⟩ = some (.bool sb) /\ w'.cell? ⟨w.heap.size + 1, 1, none⟩ = some (.slice A2 n2 c2) /\ w'.cell? ⟨w.heap.size + 1, 2, none⟩ = some (.bool sb') /\ w'.cell? ⟨w.heap.size + 1, 3, none⟩ = some (.slice A2' n2' c2')) :=
  hide fun w' hb => ⟨(r1.later hb).cell rfl, (r1.later hb).cell rfl, (r1.later hb).cell rfl, (r1.later hb).cell rfl, (r2.later hb).cell rfl, (r2.later hb).cell rfl, (r2.later hb).cell rfl, (r2.later hb).cell rfl⟩
 have HT2 : Hid (∀ w' a_ b_ c_ d_, Later W0.drew w' -> ((((w'.setCell ⟨w.heap.size + 2, 0, none⟩ a_).setCell ⟨w.heap.size + 2, 1, none⟩ b_).setCell ⟨w.heap.size + 2, 2, none⟩ c_).setCell ⟨w.heap.size + 2, 3, none⟩ d_).cell? ⟨w.heap.size, 0, none⟩ = some (.bool sa) /\ ((((w'.setCell ⟨w.heap.size + 2, 0, none⟩ a_).setCell ⟨w.heap.size + 2, 1, none⟩ b_).setCell ⟨w.heap.size + 2, 2, none⟩ c_).setCell ⟨w.heap.size + 2, 3, none⟩ d_).cell? ⟨w.heap.size, 1, none⟩ = some (.slice A1 n1 c1) /\ ((((w'.setCell ⟨w.heap.size + 2, 0, none⟩ a_).setCell ⟨w.heap.size + 2, 1, none⟩ b_).setCell ⟨w.heap.size + 2, 2, none⟩ c_).setCell ⟨w.heap.size + 2, 3, none⟩ d_).cell? ⟨w.heap.size, 2, none⟩ = some (.bool sa') /\ ((((w'.setCell ⟨w.heap.size + 2, 0, none⟩ a_).setCell ⟨w.heap.size + 2, 1, none⟩ b_).setCell ⟨w.heap.size + 2, 2, none⟩ c_).setCell ⟨w.heap.size + 2, 3, none⟩ d_).cell? ⟨w.heap.size, 3, none⟩ = some (.slice A1' n1' c1') /\ ((((w'.setCell ⟨w.heap.size + 2, 0, none⟩ a_).setCell ⟨w.heap.size + 2, 1, none⟩ b_).setCell ⟨w.heap.size + 2, 2, none⟩ c_).setCell ⟨w.heap.size + 2, 3, none⟩ d_).cell? ⟨w.heap.size + 1, 0, none⟩ = some (.bool sb) /\ ((((w'.setCell ⟨w.heap.size + 2, 0, none⟩ a_).setCell ⟨w.heap.size + 2, 1, none⟩ b_).setCell ⟨w.heap.size + 2, 2, none⟩ c_).setCell ⟨w.heap.size + 2, 3, none⟩ d_).cell? ⟨w.heap.size + 1, 1, none⟩ = some (.slice A2 n2 c2) /\ ((((w'.setCell ⟨w.heap.size + 2, 0, none⟩ a_).setCell ⟨w.heap.size + 2, 1, none⟩ b_).setCell ⟨w.heap.size + 2, 2, none⟩ c_).setCell ⟨w.heap.size + 2, 3, none⟩ d_).cell? ⟨w.heap.size + 1, 2, none⟩ = some (.bool sb') /\ ((((w'.setCell ⟨w.heap.size + 2, 0, none⟩ a_).setCell ⟨w.heap.size + 2, 1, none⟩ b_).setCell ⟨w.heap.size + 2, 2, none⟩ c_).setCell ⟨w.heap.size + 2, 3, none⟩ d_).cell? ⟨w.heap.size + 1, 3, none⟩ = some (.slice A2' n2' c2')) :=
  hide fun w' a_ b_ c_ d_ hb => ⟨((r1.later hb).far4 (by omega) a_ b_ c_ d_).cell rfl, ((r1.later hb).far4 (by omega) a_ b_ c_ d_).cell rfl, ((r1.later hb).far4 (by omega) a_ b_ c_ d_).cell rfl, ((r1.later hb).far4 (by omega) a_ b_ c_ d_).cell rfl, ((r2.later hb).far4 (by omega) a_ b_ c_ d_).cell rfl, ((r2.later hb).far4 (by omega) a_ b_ c_ d_).cell rfl, ((r2.later hb).far4 (by omega) a_ b_ c_ d_).cell rfl, ((r2.later hb).far4 (by omega) a_ b_ c_ d_).cell rfl⟩
 have Z1 : Hid ((limbs (x1 * y1).natAbs).length <= k + m + 1) := hide (Nat.le_succ_of_le (limbs_mulZ SA1 SB1))
 have Z2 : Hid ((limbs (x2 * y2).natAbs).length <= k + m + 1) := hide (Nat.le_succ_of_le (limbs_mulZ SA2 SB2))
 clear hW0 r1 r2 r3 hb0 SA1 SA2 SB1 SB2
 go_region_held3 (fun w' => w'.cell? ⟨w.heap.size, 0, none⟩ = some (.bool sa) /\ w'.cell? ⟨w.heap.size, 1, none⟩ = some (.slice A1 n1 c1) /\ w'.cell? ⟨w.heap.size, 2, none⟩ = some (.bool sa') /\ w'.cell? ⟨w.heap.size, 3, none⟩ = some (.slice A1' n1' c1') /\ w'.cell? ⟨w.heap.size + 1, 0, none⟩ = some (.bool sb) /\ w'.cell? ⟨w.heap.size + 1, 1, none⟩ = some (.slice A2 n2 c2) /\ w'.cell? ⟨w.heap.size + 1, 2, none⟩ = some (.bool sb') /\ w'.cell? ⟨w.heap.size + 1, 3, none⟩ = some (.slice A2' n2' c2'))
  (first | exact HT1.out _ (Later.refl _) | exact HT1.out _ b1 | exact HT1.out _ (b1.trans b2) | exact HT1.out _ ((b1.trans b2).trans b3) | exact HT2.out _ _ _ _ _ ((b1.trans b2).trans b3))
  (first
   | ((with_reducible refine (wmul_calls _ _ _ x1 y1 k m (HA1.out.later B0.out) (HB1.out.later B0.out) (by omega) (by omega)).mono ?_); rintro e w1 ⟨v1, rfl, o1, b1⟩; obtain ⟨s1, P1, q1, e1, rfl, o1⟩ := o1.open_; have O1 := hide o1; clear o1)
   | ((with_reducible refine (wmul_calls _ _ _ x2 y2 k m (HA2.out.later (B0.out.trans b1)) (HB2.out.later (B0.out.trans b1)) (by omega) (by omega)).mono ?_); rintro e w2 ⟨v2, rfl, o2, b2⟩; obtain ⟨s2, P2, q2, e2, rfl, o2⟩ := o2.open_; have O2 := hide o2; clear o2)
   | ((with_reducible refine (by_calls _ _ _ (x1 * y1) (x2 * y2) (k + m + 1) ((O1.out.raw (Z1.out)).later b2) (O2.out.raw (Z2.out)) (by omega) HNE.out q HQ.out).mono ?_); rintro e w3 ⟨v3, rfl, o3, b3⟩; obtain ⟨s3, P3, q3, e3, P3', q3', e3', rfl, o3⟩ := o3.open_; have O3 := hide o3; clear o3; obtain ⟨f1, f2, f3, f4, f5, f6, f7, f8⟩ := row_cells4 (R3.out.later ((b1.trans b2).trans b3))))
 have hs0 : W0.drew.heap.size = w.heap.size + 3 := hsz
 have hL := B0.out.trans ((b1.trans b2).trans b3)
 have hrow := R3.out.later ((b1.trans b2).trans b3)
 have hs1 := b1.size; have hs2 := b2.size; have hs3 := b3.size
 clear f1 f2 f3 f4 f5 f6 f7 f8
 go_wp2_with fail
 refine bodyPost_ret (results_rat rfl rfl (hrow.four _ _ _ _)) rfl ?_
 have oo := Only.four (w.heap.size + 2) w3 (.bool s3) (.slice P3 q3 e3) (.bool false) (.slice P3' q3' e3')
 exact ⟨_, rfl, (O3.out.only oo (by omega)).weaken (by omega), hL.only oo (by omega)⟩
set_option maxHeartbeats 2000000 in
theorem radd1_calls (w : World) (va vb : Value) (a b : Rat) (k m : Nat) (ha : PlnR w va a k) (hb : PlnR w vb b m) (hkm : k + m <= 300000000) :
 Calls Tryz.prog 209 #[va, vb] w (Ret w fun w' v => OwnR w' w.heap.size v (a + b)) := by
 have hA := ha.sized; have hB := hb.sized
 obtain ⟨sa, A1, n1, c1, sa', A1', n1', c1', rfl, ha1, ha2⟩ := ha
 obtain ⟨sb, A2, n2, c2, sb', A2', n2', c2', rfl, hb1, hb2⟩ := hb
 obtain ⟨q, hq⟩ : ∃ q, q = a + b := ⟨_, rfl⟩
 rw [<- hq]
 have hq2 := ratOf_add a b
 rw [<- hq] at hq2
 have HQ := hide hq2.symm
 obtain ⟨x1, hx1⟩ : ∃ x, x = a.num := ⟨_, rfl⟩
 obtain ⟨x2, hx2⟩ : ∃ x, x = (a.den : Int) := ⟨_, rfl⟩
 obtain ⟨y1, hy1⟩ : ∃ x, x = b.num := ⟨_, rfl⟩
 obtain ⟨y2, hy2⟩ : ∃ x, x = (b.den : Int) := ⟨_, rfl⟩
 have hne : x2 * y2 ≠ 0 := by rw [hx2, hy2]; exact den_mul_ne a b
 rw [<- hx1, <- hx2, <- hy1, <- hy2] at HQ
 rw [<- hx1] at ha1; rw [<- hx2] at ha2; rw [<- hy1] at hb1; rw [<- hy2] at hb2
 have HA1 := hide ha1; have HA2 := hide ha2; have HB1 := hide hb1; have HB2 := hide hb2; have HNE := hide hne
 have SA1 := ha1.limbs_le; have SA2 := ha2.limbs_le; have SB1 := hb1.limbs_le; have SB2 := hb2.limbs_le
 clear hq hq2 hx1 hx2 hy1 hy2 ha1 ha2 hb1 hb2 hA hB hne
 go_enter Tryz.func209, Tryz.ntmps209
 go_upto_region 1 with fail
 obtain ⟨W0, hW0⟩ : ∃ W0, W0 = (((w.alloc (Obj.cells #[Value.bool sa, Value.slice A1 n1 c1, Value.bool sa', Value.slice A1' n1' c1'] 36)).alloc (Obj.cells #[Value.bool sb, Value.slice A2 n2 c2, Value.bool sb', Value.slice A2' n2' c2'] 36)).alloc (Obj.cells #[Value.bool false, Value.slice none 0 0, Value.bool false, Value.slice none 0 0] 36)) := ⟨_, rfl⟩
 obtain ⟨hb0, r1, r2, r3, hsz⟩ := boxes3 w [.bool sa, .slice A1 n1 c1, .bool sa', .slice A1' n1' c1'] [.bool sb, .slice A2 n2 c2, .bool sb', .slice A2' n2' c2'] [.bool false, .slice none 0 0, .bool false, .slice none 0 0] 36 36 36 hW0
 rw [<- hW0]
 have hb0 := hb0.drew; have r1 := r1.drew; have r2 := r2.drew; have r3 := r3.drew
 have hsz : W0.drew.heap.size = w.heap.size + 3 := hsz
 have R3 := hide r3; have B0 := hide hb0
 have HT1 : Hid (∀ w', Later W0.drew w' -> w'.cell? ⟨w.heap.size, 0, none⟩ = some (.bool sa) /\ w'.cell? ⟨w.heap.size, 1, none⟩ = some (.slice A1 n1 c1) /\ w'.cell? ⟨w.heap.size, 2, none⟩ = some (.bool sa') /\ w'.cell? ⟨w.heap.size, 3, none⟩ = some (.slice A1' n1' c1') /\ w'.cell? ⟨w.heap.size + 1, 0, none⟩ = some (.bool sb) /\ w'.cell? ⟨w.heap.size + 1, 1, none⟩ = some (.slice A2 n2 c2) /\ w'.cell? ⟨w.heap.size + 1, 2, none⟩ = some (.bool sb') /\ w'.cell? ⟨w.heap.size + 1, 3, none⟩ = some (.slice A2' n2' c2')) :=
  hide fun w' hb => ⟨(r1.later hb).cell rfl, (r1.later hb).cell rfl, (r1.later hb).cell rfl, (r1.later hb).cell rfl, (r2.later hb).cell rfl, (r2.later hb).cell rfl, (r2.later hb).cell rfl, (r2.later hb).cell rfl⟩
 have HT2 : Hid (∀ w' a_ b_ c_ d_, Later W0.drew w' -> ((((w'.setCell ⟨w.heap.size + 2, 0, none⟩ a_).setCell ⟨w.heap.size + 2, 1, none⟩ b_).setCell ⟨w.heap.size + 2, 2, none⟩ c_).setCell ⟨w.heap.size + 2, 3, none⟩ d_).cell? ⟨w.heap.size, 0, none⟩ = some (.bool sa) /\ ((((w'.setCell ⟨w.heap.size + 2, 0, none⟩ a_).setCell ⟨w.heap.size + 2, 1, none⟩ b_).setCell ⟨w.heap.size + 2, 2, none⟩ c_).setCell ⟨w.heap.size + 2, 3, none⟩ d_).cell? ⟨w.heap.size, 1, none⟩ = some (.slice A1 n1 c1) /\ ((((w'.setCell ⟨w.heap.size + 2, 0, none⟩ a_).setCell ⟨w.heap.size + 2, 1, none⟩ b_).setCell ⟨w.heap.size + 2, 2, none⟩ c_).setCell ⟨w.heap.size + 2, 3, none⟩ d_).cell? ⟨w.heap.size, 2, none⟩ = some (.bool sa') /\ ((((w'.setCell ⟨w.heap.size + 2, 0, none⟩ a_).setCell ⟨w.heap.size + 2, 1, none⟩ b_).setCell ⟨w.heap.size + 2, 2, none⟩ c_).setCell ⟨w.heap.size + 2, 3, none⟩ d_).cell? ⟨w.heap.size, 3, none⟩ = some (.slice A1' n1' c1') /\ ((((w'.setCell ⟨w.heap.size + 2, 0, none⟩ a_).setCell ⟨w.heap.size + 2, 1, none⟩ b_).setCell ⟨w.heap.size + 2, 2, none⟩ c_).setCell ⟨w.heap.size + 2, 3, none⟩ d_).cell? ⟨w.heap.size + 1, 0, none⟩ = some (.bool sb) /\ ((((w'.setCell ⟨w.heap.size + 2, 0, none⟩ a_).setCell ⟨w.heap.size + 2, 1, none⟩ b_).setCell ⟨w.heap.size + 2, 2, none⟩ c_).setCell ⟨w.heap.size + 2, 3, none⟩ d_).cell? ⟨w.heap.size + 1, 1, none⟩ = some (.slice A2 n2 c2) /\ ((((w'.setCell ⟨w.heap.size + 2, 0, none⟩ a_).setCell ⟨w.heap.size + 2, 1, none⟩ b_).setCell ⟨w.heap.size + 2, 2, none⟩ c_).setCell ⟨w.heap.size + 2, 3, none⟩ d_).cell? ⟨w.heap.size + 1, 2, none⟩ = some (.bool sb') /\ ((((w'.setCell ⟨w.heap.size + 2, 0, none⟩ a_).setCell ⟨w.heap.size + 2, 1, none⟩ b_).setCell ⟨w.heap.size + 2, 2, none⟩ c_).setCell ⟨w.heap.size + 2, 3, none⟩ d_).cell? ⟨w.heap.size + 1, 3, none⟩ = some (.slice A2' n2' c2')) :=
  hide fun w' a_ b_ c_ d_ hb => ⟨((r1.later hb).far4 (by omega) a_ b_ c_ d_).cell rfl, ((r1.later hb).far4 (by omega) a_ b_ c_ d_).cell rfl, ((r1.later hb).far4 (by omega) a_ b_ c_ d_).cell rfl, ((r1.later hb).far4 (by omega) a_ b_ c_ d_).cell rfl, ((r2.later hb).far4 (by omega) a_ b_ c_ d_).cell rfl, ((r2.later hb).far4 (by omega) a_ b_ c_ d_).cell rfl, ((r2.later hb).far4 (by omega) a_ b_ c_ d_).cell rfl, ((r2.later hb).far4 (by omega) a_ b_ c_ d_).cell rfl⟩
 have Z1 : Hid ((limbs (x1 * y2).natAbs).length <= k + m + 1) := hide (Nat.le_succ_of_le (limbs_mulZ SA1 SB2))
 have Z2 : Hid ((limbs (y1 * x2).natAbs).length <= k + m + 1) := hide (Nat.le_succ_of_le (by rw [Nat.add_comm k m]; exact limbs_mulZ SB1 SA2))
 have Z3 : Hid ((limbs (x1 * y2 + y1 * x2).natAbs).length <= k + m + 1) := hide (limbs_addZ (limbs_mulZ SA1 SB2) (by rw [Nat.add_comm k m]; exact limbs_mulZ SB1 SA2))
 have Z4 : Hid ((limbs (x2 * y2).natAbs).length <= k + m + 1) := hide (Nat.le_succ_of_le (limbs_mulZ SA2 SB2))
 clear hW0 r1 r2 r3 hb0 SA1 SA2 SB1 SB2
 go_region_held3 (fun w' => w'.cell? ⟨w.heap.size, 0, none⟩ = some (.bool sa) /\ w'.cell? ⟨w.heap.size, 1, none⟩ = some (.slice A1 n1 c1) /\ w'.cell? ⟨w.heap.size, 2, none⟩ = some (.bool sa') /\ w'.cell? ⟨w.heap.size, 3, none⟩ = some (.slice A1' n1' c1') /\ w'.cell? ⟨w.heap.size + 1, 0, none⟩ = some (.bool sb) /\ w'.cell? ⟨w.heap.size + 1, 1, none⟩ = some (.slice A2 n2 c2) /\ w'.cell? ⟨w.heap.size + 1, 2, none⟩ = some (.bool sb') /\ w'.cell? ⟨w.heap.size + 1, 3, none⟩ = some (.slice A2' n2' c2'))
  (first | exact HT1.out _ (Later.refl _) | exact HT1.out _ b1 | exact HT1.out _ (b1.trans b2) | exact HT1.out _ ((b1.trans b2).trans b3) | exact HT1.out _ (((b1.trans b2).trans b3).trans b4) | exact HT1.out _ ((((b1.trans b2).trans b3).trans b4).trans b5) | exact HT2.out _ _ _ _ _ ((((b1.trans b2).trans b3).trans b4).trans b5))
  (first
   | ((with_reducible refine (wmul_calls _ _ _ x1 y2 k m (HA1.out.later B0.out) (HB2.out.later B0.out) (by omega) (by omega)).mono ?_); rintro e w1 ⟨v1, rfl, o1, b1⟩; obtain ⟨s1, P1, q1, e1, rfl, o1⟩ := o1.open_; have O1 := hide o1; clear o1)
   | ((with_reducible refine (wmul_calls _ _ _ y1 x2 m k (HB1.out.later (B0.out.trans b1)) (HA2.out.later (B0.out.trans b1)) (by omega) (by omega)).mono ?_); rintro e w2 ⟨v2, rfl, o2, b2⟩; obtain ⟨s2, P2, q2, e2, rfl, o2⟩ := o2.open_; have O2 := hide o2; clear o2)
   | ((with_reducible refine (wadd_calls _ _ _ (x1 * y2) (y1 * x2) (k + m + 1) (k + m + 1) ((O1.out.raw (Z1.out)).later b2) (O2.out.raw (Z2.out)) (by omega) (by omega)).mono ?_); rintro e w3 ⟨v3, rfl, o3, b3⟩; obtain ⟨s3, P3, q3, e3, rfl, o3⟩ := o3.open_; have O3 := hide o3; clear o3)
   | ((with_reducible refine (wmul_calls _ _ _ x2 y2 k m (HA2.out.later (((B0.out.trans b1).trans b2).trans b3)) (HB2.out.later (((B0.out.trans b1).trans b2).trans b3)) (by omega) (by omega)).mono ?_); rintro e w4 ⟨v4, rfl, o4, b4⟩; obtain ⟨s4, P4, q4, e4, rfl, o4⟩ := o4.open_; have O4 := hide o4; clear o4)
   | ((with_reducible refine (by_calls _ _ _ (x1 * y2 + y1 * x2) (x2 * y2) (k + m + 1) ((O3.out.raw (Z3.out)).later b4) (O4.out.raw (Z4.out)) (by omega) HNE.out q HQ.out).mono ?_); rintro e w5 ⟨v5, rfl, o5, b5⟩; obtain ⟨s5, P5, q5, e5, P5', q5', e5', rfl, o5⟩ := o5.open_; have O5 := hide o5; clear o5; obtain ⟨f1, f2, f3, f4, f5, f6, f7, f8⟩ := row_cells4 (R3.out.later ((((b1.trans b2).trans b3).trans b4).trans b5))))
 have hs0 : W0.drew.heap.size = w.heap.size + 3 := hsz
 have hL := B0.out.trans ((((b1.trans b2).trans b3).trans b4).trans b5)
 have hrow := R3.out.later ((((b1.trans b2).trans b3).trans b4).trans b5)
 have hs1 := b1.size; have hs2 := b2.size; have hs3 := b3.size; have hs4 := b4.size; have hs5 := b5.size
 clear f1 f2 f3 f4 f5 f6 f7 f8
 go_wp2_with fail
 refine bodyPost_ret (results_rat rfl rfl (hrow.four _ _ _ _)) rfl ?_
 have oo := Only.four (w.heap.size + 2) w5 (.bool s5) (.slice P5 q5 e5) (.bool false) (.slice P5' q5' e5')
 exact ⟨_, rfl, (O5.out.only oo (by omega)).weaken (by omega), hL.only oo (by omega)⟩
set_option maxHeartbeats 2000000 in
theorem rsub1_calls (w : World) (va vb : Value) (a b : Rat) (k m : Nat) (ha : PlnR w va a k) (hb : PlnR w vb b m) (hkm : k + m <= 300000000) :
 Calls Tryz.prog 133 #[va, vb] w (Ret w fun w' v => OwnR w' w.heap.size v (a - b)) := by
 have hA := ha.sized; have hB := hb.sized
 obtain ⟨sa, A1, n1, c1, sa', A1', n1', c1', rfl, ha1, ha2⟩ := ha
 obtain ⟨sb, A2, n2, c2, sb', A2', n2', c2', rfl, hb1, hb2⟩ := hb
 obtain ⟨q, hq⟩ : ∃ q, q = a - b := ⟨_, rfl⟩
 rw [<- hq]
 have hq2 := ratOf_sub a b
 rw [<- hq] at hq2
 have HQ := hide hq2.symm
 obtain ⟨x1, hx1⟩ : ∃ x, x = a.num := ⟨_, rfl⟩
 obtain ⟨x2, hx2⟩ : ∃ x, x = (a.den : Int) := ⟨_, rfl⟩
 obtain ⟨y1, hy1⟩ : ∃ x, x = b.num := ⟨_, rfl⟩
 obtain ⟨y2, hy2⟩ : ∃ x, x = (b.den : Int) := ⟨_, rfl⟩
 have hne : x2 * y2 ≠ 0 := by rw [hx2, hy2]; exact den_mul_ne a b
 rw [<- hx1, <- hx2, <- hy1, <- hy2] at HQ
 rw [<- hx1] at ha1; rw [<- hx2] at ha2; rw [<- hy1] at hb1; rw [<- hy2] at hb2
 have HA1 := hide ha1; have HA2 := hide ha2; have HB1 := hide hb1; have HB2 := hide hb2; have HNE := hide hne
 have SA1 := ha1.limbs_le; have SA2 := ha2.limbs_le; have SB1 := hb1.limbs_le; have SB2 := hb2.limbs_le
 clear hq hq2 hx1 hx2 hy1 hy2 ha1 ha2 hb1 hb2 hA hB hne
 go_enter Tryz.func133, Tryz.ntmps133
 go_upto_region 1 with fail
 obtain ⟨W0, hW0⟩ : ∃ W0, W0 = (((w.alloc (Obj.cells #[Value.bool sa, Value.slice A1 n1 c1, Value.bool sa', Value.slice A1' n1' c1'] 36)).alloc (Obj.cells #[Value.bool sb, Value.slice A2 n2 c2, Value.bool sb', Value.slice A2' n2' c2'] 36)).alloc (Obj.cells #[Value.bool false, Value.slice none 0 0, Value.bool false, Value.slice none 0 0] 36)) := ⟨_, rfl⟩
 obtain ⟨hb0, r1, r2, r3, hsz⟩ := boxes3 w [.bool sa, .slice A1 n1 c1, .bool sa', .slice A1' n1' c1'] [.bool sb, .slice A2 n2 c2, .bool sb', .slice A2' n2' c2'] [.bool false, .slice none 0 0, .bool false, .slice none 0 0] 36 36 36 hW0
 rw [<- hW0]
 have hb0 := hb0.drew; have r1 := r1.drew; have r2 := r2.drew; have r3 := r3.drew
 have hsz : W0.drew.heap.size = w.heap.size + 3 := hsz
 have R3 := hide r3; have B0 := hide hb0
 have HT1 : Hid (∀ w', Later W0.drew w' -> w'.cell? ⟨w.heap.size, 0, none⟩ = some (.bool sa) /\ w'.cell? ⟨w.heap.size, 1, none⟩ = some (.slice A1 n1 c1) /\ w'.cell? ⟨w.heap.size, 2, none⟩ = some (.bool sa') /\ w'.cell? ⟨w.heap.size, 3, none⟩ = some (.slice A1' n1' c1') /\ w'.cell? ⟨w.heap.size + 1, 0, none⟩ = some (.bool sb) /\ w'.cell? ⟨w.heap.size + 1, 1, none⟩ = some (.slice A2 n2 c2) /\ w'.cell? ⟨w.heap.size + 1, 2, none⟩ = some (.bool sb') /\ w'.cell? ⟨w.heap.size + 1, 3, none⟩ = some (.slice A2' n2' c2')) :=
  hide fun w' hb => ⟨(r1.later hb).cell rfl, (r1.later hb).cell rfl, (r1.later hb).cell rfl, (r1.later hb).cell rfl, (r2.later hb).cell rfl, (r2.later hb).cell rfl, (r2.later hb).cell rfl, (r2.later hb).cell rfl⟩
 have HT2 : Hid (∀ w' a_ b_ c_ d_, Later W0.drew w' -> ((((w'.setCell ⟨w.heap.size + 2, 0, none⟩ a_).setCell ⟨w.heap.size + 2, 1, none⟩ b_).setCell ⟨w.heap.size + 2, 2, none⟩ c_).setCell ⟨w.heap.size + 2, 3, none⟩ d_).cell? ⟨w.heap.size, 0, none⟩ = some (.bool sa) /\ ((((w'.setCell ⟨w.heap.size + 2, 0, none⟩ a_).setCell ⟨w.heap.size + 2, 1, none⟩ b_).setCell ⟨w.heap.size + 2, 2, none⟩ c_).setCell ⟨w.heap.size + 2, 3, none⟩ d_).cell? ⟨w.heap.size, 1, none⟩ = some (.slice A1 n1 c1) /\ ((((w'.setCell ⟨w.heap.size + 2, 0, none⟩ a_).setCell ⟨w.heap.size + 2, 1, none⟩ b_).setCell ⟨w.heap.size + 2, 2, none⟩ c_).setCell ⟨w.heap.size + 2, 3, none⟩ d_).cell? ⟨w.heap.size, 2, none⟩ = some (.bool sa') /\ ((((w'.setCell ⟨w.heap.size + 2, 0, none⟩ a_).setCell ⟨w.heap.size + 2, 1, none⟩ b_).setCell ⟨w.heap.size + 2, 2, none⟩ c_).setCell ⟨w.heap.size + 2, 3, none⟩ d_).cell? ⟨w.heap.size, 3, none⟩ = some (.slice A1' n1' c1') /\ ((((w'.setCell ⟨w.heap.size + 2, 0, none⟩ a_).setCell ⟨w.heap.size + 2, 1, none⟩ b_).setCell ⟨w.heap.size + 2, 2, none⟩ c_).setCell ⟨w.heap.size + 2, 3, none⟩ d_).cell? ⟨w.heap.size + 1, 0, none⟩ = some (.bool sb) /\ ((((w'.setCell ⟨w.heap.size + 2, 0, none⟩ a_).setCell ⟨w.heap.size + 2, 1, none⟩ b_).setCell ⟨w.heap.size + 2, 2, none⟩ c_).setCell ⟨w.heap.size + 2, 3, none⟩ d_).cell? ⟨w.heap.size + 1, 1, none⟩ = some (.slice A2 n2 c2) /\ ((((w'.setCell ⟨w.heap.size + 2, 0, none⟩ a_).setCell ⟨w.heap.size + 2, 1, none⟩ b_).setCell ⟨w.heap.size + 2, 2, none⟩ c_).setCell ⟨w.heap.size + 2, 3, none⟩ d_).cell? ⟨w.heap.size + 1, 2, none⟩ = some (.bool sb') /\ ((((w'.setCell ⟨w.heap.size + 2, 0, none⟩ a_).setCell ⟨w.heap.size + 2, 1, none⟩ b_).setCell ⟨w.heap.size + 2, 2, none⟩ c_).setCell ⟨w.heap.size + 2, 3, none⟩ d_).cell? ⟨w.heap.size + 1, 3, none⟩ = some (.slice A2' n2' c2')) :=
  hide fun w' a_ b_ c_ d_ hb => ⟨((r1.later hb).far4 (by omega) a_ b_ c_ d_).cell rfl, ((r1.later hb).far4 (by omega) a_ b_ c_ d_).cell rfl, ((r1.later hb).far4 (by omega) a_ b_ c_ d_).cell rfl, ((r1.later hb).far4 (by omega) a_ b_ c_ d_).cell rfl, ((r2.later hb).far4 (by omega) a_ b_ c_ d_).cell rfl, ((r2.later hb).far4 (by omega) a_ b_ c_ d_).cell rfl, ((r2.later hb).far4 (by omega) a_ b_ c_ d_).cell rfl, ((r2.later hb).far4 (by omega) a_ b_ c_ d_).cell rfl⟩
 have Z1 : Hid ((limbs (x1 * y2).natAbs).length <= k + m + 1) := hide (Nat.le_succ_of_le (limbs_mulZ SA1 SB2))
 have Z2 : Hid ((limbs (y1 * x2).natAbs).length <= k + m + 1) := hide (Nat.le_succ_of_le (by rw [Nat.add_comm k m]; exact limbs_mulZ SB1 SA2))
 have Z3 : Hid ((limbs (x1 * y2 - y1 * x2).natAbs).length <= k + m + 1) := hide (limbs_subZ (limbs_mulZ SA1 SB2) (by rw [Nat.add_comm k m]; exact limbs_mulZ SB1 SA2))
 have Z4 : Hid ((limbs (x2 * y2).natAbs).length <= k + m + 1) := hide (Nat.le_succ_of_le (limbs_mulZ SA2 SB2))
 clear hW0 r1 r2 r3 hb0 SA1 SA2 SB1 SB2
 go_region_held3 (fun w' => w'.cell? ⟨w.heap.size, 0, none⟩ = some (.bool sa) /\ w'.cell? ⟨w.heap.size, 1, none⟩ = some (.slice A1 n1 c1) /\ w'.cell? ⟨w.heap.size, 2, none⟩ = some (.bool sa') /\ w'.cell? ⟨w.heap.size, 3, none⟩ = some (.slice A1' n1' c1') /\ w'.cell? ⟨w.heap.size + 1, 0, none⟩ = some (.bool sb) /\ w'.cell? ⟨w.heap.size + 1, 1, none⟩ = some (.slice A2 n2 c2) /\ w'.cell? ⟨w.heap.size + 1, 2, none⟩ = some (.bool sb') /\ w'.cell? ⟨w.heap.size + 1, 3, none⟩ = some (.slice A2' n2' c2'))
  (first | exact HT1.out _ (Later.refl _) | exact HT1.out _ b1 | exact HT1.out _ (b1.trans b2) | exact HT1.out _ ((b1.trans b2).trans b3) | exact HT1.out _ (((b1.trans b2).trans b3).trans b4) | exact HT1.out _ ((((b1.trans b2).trans b3).trans b4).trans b5) | exact HT2.out _ _ _ _ _ ((((b1.trans b2).trans b3).trans b4).trans b5))
  (first
   | ((with_reducible refine (wmul_calls _ _ _ x1 y2 k m (HA1.out.later B0.out) (HB2.out.later B0.out) (by omega) (by omega)).mono ?_); rintro e w1 ⟨v1, rfl, o1, b1⟩; obtain ⟨s1, P1, q1, e1, rfl, o1⟩ := o1.open_; have O1 := hide o1; clear o1)
   | ((with_reducible refine (wmul_calls _ _ _ y1 x2 m k (HB1.out.later (B0.out.trans b1)) (HA2.out.later (B0.out.trans b1)) (by omega) (by omega)).mono ?_); rintro e w2 ⟨v2, rfl, o2, b2⟩; obtain ⟨s2, P2, q2, e2, rfl, o2⟩ := o2.open_; have O2 := hide o2; clear o2)
   | ((with_reducible refine (wsub_calls _ _ _ (x1 * y2) (y1 * x2) (k + m + 1) (k + m + 1) ((O1.out.raw (Z1.out)).later b2) (O2.out.raw (Z2.out)) (by omega) (by omega)).mono ?_); rintro e w3 ⟨v3, rfl, o3, b3⟩; obtain ⟨s3, P3, q3, e3, rfl, o3⟩ := o3.open_; have O3 := hide o3; clear o3)
   | ((with_reducible refine (wmul_calls _ _ _ x2 y2 k m (HA2.out.later (((B0.out.trans b1).trans b2).trans b3)) (HB2.out.later (((B0.out.trans b1).trans b2).trans b3)) (by omega) (by omega)).mono ?_); rintro e w4 ⟨v4, rfl, o4, b4⟩; obtain ⟨s4, P4, q4, e4, rfl, o4⟩ := o4.open_; have O4 := hide o4; clear o4)
   | ((with_reducible refine (by_calls _ _ _ (x1 * y2 - y1 * x2) (x2 * y2) (k + m + 1) ((O3.out.raw (Z3.out)).later b4) (O4.out.raw (Z4.out)) (by omega) HNE.out q HQ.out).mono ?_); rintro e w5 ⟨v5, rfl, o5, b5⟩; obtain ⟨s5, P5, q5, e5, P5', q5', e5', rfl, o5⟩ := o5.open_; have O5 := hide o5; clear o5; obtain ⟨f1, f2, f3, f4, f5, f6, f7, f8⟩ := row_cells4 (R3.out.later ((((b1.trans b2).trans b3).trans b4).trans b5))))
 have hs0 : W0.drew.heap.size = w.heap.size + 3 := hsz
 have hL := B0.out.trans ((((b1.trans b2).trans b3).trans b4).trans b5)
 have hrow := R3.out.later ((((b1.trans b2).trans b3).trans b4).trans b5)
 have hs1 := b1.size; have hs2 := b2.size; have hs3 := b3.size; have hs4 := b4.size; have hs5 := b5.size
 clear f1 f2 f3 f4 f5 f6 f7 f8
 go_wp2_with fail
 refine bodyPost_ret (results_rat rfl rfl (hrow.four _ _ _ _)) rfl ?_
 have oo := Only.four (w.heap.size + 2) w5 (.bool s5) (.slice P5 q5 e5) (.bool false) (.slice P5' q5' e5')
 exact ⟨_, rfl, (O5.out.only oo (by omega)).weaken (by omega), hL.only oo (by omega)⟩
end Go.Proofs.YtfokplidiboabaaGreat
