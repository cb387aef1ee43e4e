/- A table of one's own beside rows of one's own: each row in a block of its own. -/
import Derived.Test.YtfokplidiboabaaGreatS18
import Derived.Test.YtfokplidiboabaaGreatS15
import Derived.Test.YtfokplidiboabaaGreatS16
import Derived.Test.YtfokplidiboabaaGreatS8
set_option linter.unusedVariables false
set_option linter.unusedSimpArgs false
set_option maxRecDepth 100000
namespace Go.Proofs.YtfokplidiboabaaGreat
open Go.RowKit Go.Shelf
structure TabX (w : World) (lo : Nat) (v : Value) (hs : List Value) (t : List (List Rat)) (xs : List Value) (ls : List (List Rat)) : Prop where
 own : w.ownsRow lo 22 1 v hs.length hs
 tab : TabU w lo (xs ++ hs) (ls ++ t)
 lx : xs.length = ls.length
 sl : ∀ u ∈ hs, ∃ A n c, u = .slice A n c
section
variable {w w' : World} {lo : Nat} {v : Value} {hs xs : List Value} {t ls : List (List Rat)}
theorem TabX.ht (h : TabX w lo v hs t xs ls) : hs.length = t.length := by
 have h1 := h.tab.len; have h2 := h.lx
 rw [List.length_append, List.length_append] at h1; omega
theorem TabX.nil (w : World) (lo : Nat) : TabX w lo (.slice none 0 0) [] [] [] [] := ⟨World.ownsRow_nil w lo _ 1, TabU.nil w lo, rfl, fun u h => by cases h⟩
theorem TabX.later (h : TabX w lo v hs t xs ls) (hb : Later w w') : TabX w' lo v hs t xs ls := ⟨ownsRow_later h.own hb, h.tab.later hb, h.lx, h.sl⟩
theorem TabX.only {g : Nat} {T : TypeId} {cs : List Value} (h : TabX w lo v hs t xs ls) (o : Only g w w') (r : Row w g T cs) (h1 : T ≠ 160) (h2 : T ≠ 36) (h3 : T ≠ 22) : TabX w' lo v hs t xs ls :=
 ⟨ownsRow_apart h.own o r h3, h.tab.only o r h1 h2, h.lx, h.sl⟩
theorem TabX.loose {u : Value} {l : List Rat} (h : TabX w lo v [] [] xs ls) (hb : Later w w') (hnew : RowU w' lo u l) (hv : ∀ k, u.ownBlock = some k -> w.heap.size <= k) : TabX w' lo v [] [] (xs ++ [u]) (ls ++ [l]) := by
 have h1 := h.tab.snoc (w' := w') (v' := u) (l' := l)
 rw [List.append_nil, List.append_nil] at h1
 exact ⟨ownsRow_later h.own hb, by rw [List.append_nil, List.append_nil]; exact h1 hb hnew hv, by rw [List.length_append, List.length_append, h.lx]; rfl, h.sl⟩
theorem TabX.x (h : TabX w lo v hs t xs ls) {i : Nat} {u : Value} {l : List Rat} (hi : xs[i]? = some u) (hl : ls[i]? = some l) : RowU w lo u l :=
 h.tab.row i u l (by rw [List.getElem?_append_left (List.getElem?_eq_some_iff.1 hi).1]; exact hi) (by rw [List.getElem?_append_left (List.getElem?_eq_some_iff.1 hl).1]; exact hl)
theorem TabX.h_ (h : TabX w lo v hs t xs ls) {i : Nat} {u : Value} {l : List Rat} (hi : hs[i]? = some u) (hl : t[i]? = some l) : RowU w lo u l :=
 h.tab.row (xs.length + i) u l (by rw [List.getElem?_append_right (by omega), Nat.add_sub_cancel_left]; exact hi) (by rw [h.lx, List.getElem?_append_right (by omega), Nat.add_sub_cancel_left]; exact hl)
theorem TabX.growX {i : Nat} {b b' : Value} {bl bl' : List Rat} (h : TabX w lo v hs t xs ls) (hi : xs[i]? = some b) (hl : ls[i]? = some bl) (k : OutRats EOwn w' (U32B w) lo b' bl') (hg : w.grownBy w' b.ownBlock) (hv : b'.ownBlock = b.ownBlock ∨ b'.ownBlock = some w.heap.size) : TabX w' lo v hs t (xs.set i b') (ls.set i bl') := by
 have hb := h.x hi hl
 obtain ⟨ys, hys⟩ := hb.owns
 have hil := (List.getElem?_eq_some_iff.1 hi).1
 refine ⟨?_, ?_, by rw [List.length_set, List.length_set]; exact h.lx, h.sl⟩
 ·refine ownsRow_grown h.own hg fun k hk e => ?_
  obtain ⟨-, q3⟩ := h.own
  rcases q3 with ⟨rfl, -⟩ | ⟨g2, c2, cur2, rfl, -, hg2, -⟩
  ·cases hk
  ·injection hk with hk; subst hk
   obtain ⟨-, q4⟩ := hys
   rcases q4 with ⟨rfl, -⟩ | ⟨g1, c1, cur1, rfl, -, hg1, -⟩
   ·cases e
   ·injection e with e; subst e
    rw [hg1] at hg2; injection hg2 with hg2; injection hg2 with _ hg2 _; exact tRow_rat hg2.symm
 ·have h1 := h.tab.put (i := i) (v := b) (v' := b') (l' := bl') (w' := w') (by rw [List.getElem?_append_left hil]; exact hi) (hb.grew k hg) hg (KeepU.grown hg hys tRat_u32) (hv.imp id fun e k2 e2 => by rw [e] at e2; injection e2 with e2; omega)
  rw [List.set_append_left _ _ hil, List.set_append_left _ _ (by rw [<- h.lx]; exact hil)] at h1
  exact h1
theorem TabX.block (h : TabX w lo v hs t xs ls) (hl : 0 < hs.length) : ∃ g cap sp, v = .slice (some ⟨g, 0, none⟩) hs.length cap /\ lo <= g /\ Row w g 22 (hs ++ sp) /\ hs.length <= cap /\ cap <= maxLen := by
 obtain ⟨h2, h3⟩ := h.own
 rcases h3 with ⟨rfl, h0⟩ | ⟨g, cap, cur, rfl, hb, hg, hc, hmx, hs', ht⟩
 ·omega
 ·refine ⟨g, cap, cur.toList.drop (hs.length * 1), rfl, hb, ?_, hc, hmx⟩
  unfold Row
  have : hs ++ List.drop (hs.length * 1) cur.toList = cur.toList := by
   conv => lhs; lhs; rw [<- ht]
   exact List.take_append_drop _ _
  rw [this]; simpa using hg
theorem TabX.reads (h : TabX w lo v hs t xs ls) : Tab EOwn w v t := by
 have hlen := h.ht
 by_cases hl : 0 < hs.length
 ·obtain ⟨g, cap, sp, rfl, -, hr, hc, hm⟩ := h.block hl
  refine ⟨_, cap, by rw [hlen], by omega, hm, fun i row hi => ?_⟩
  have hil : i < hs.length := by rw [hlen]; exact (List.getElem?_eq_some_iff.1 hi).1
  obtain ⟨A, n, c, e⟩ := h.sl hs[i] (List.getElem_mem hil)
  have e1 : hs[i]? = some (.slice A n c) := by rw [List.getElem?_eq_getElem hil, e]
  exact ⟨g, 0, A, n, c, rfl, by rw [Nat.zero_add]; exact hr.cell (by rw [List.getElem?_append_left hil]; exact e1), (h.h_ e1 hi).rats⟩
 ·have e1 : hs = [] := List.eq_nil_of_length_eq_zero (by omega)
  subst e1
  have e2 : t = [] := List.eq_nil_of_length_eq_zero hlen.symm
  subst e2
  obtain ⟨h2, h3⟩ := h.own
  rcases h3 with ⟨rfl, h0⟩ | ⟨g, cap, cur, rfl, hb, hg, hc, hmx, hs', ht⟩
  ·exact ⟨none, 0, rfl, by simp, by decide, fun i row hi => by simp at hi⟩
  ·exact ⟨_, cap, rfl, hc, hmx, fun i row hi => by simp at hi⟩
theorem TabX.ratBlock (h : TabX w lo v hs t xs ls) {i : Nat} {u : Value} (hi : hs[i]? = some u) {g : Nat} (hg : u.ownBlock = some g) : ∃ cs, Row w g 36 cs :=
 h.tab.ratBlock (List.mem_append_right _ (List.mem_of_getElem? hi)) hg
theorem TabX.put {g n cap i : Nat} {u u' : Value} {l' : List Rat} {w1 : World} (h : TabX w lo (.slice (some ⟨g, 0, none⟩) n cap) hs t xs ls) (hi : hs[i]? = some u) (hnew : RowU w1 lo u' l') (hg : w.grownBy w1 u.ownBlock) (hk : KeepU w w1) (hv : u'.ownBlock = u.ownBlock ∨ ∀ k, u'.ownBlock = some k -> w.heap.size <= k)
 (hu : ∃ A n c, u' = .slice A n c) : TabX (w1.setCell ⟨g, i, none⟩ u') lo (.slice (some ⟨g, 0, none⟩) n cap) (hs.set i u') (t.set i l') xs ls := by
 have hil := (List.getElem?_eq_some_iff.1 hi).1
 obtain ⟨k1, k2⟩ := h.own
 rcases k2 with ⟨e, -⟩ | ⟨g', c', cur, e, hb, hg', hc, hmx, hs', ht⟩
 ·cases e
 injection e with e1 e2 e3
 injection e1 with e1; injection e1 with e1
 subst e1 e2 e3
 have hne : some g ≠ u.ownBlock := by
  intro e
  obtain ⟨cs, r⟩ := h.ratBlock hi e.symm
  rw [r] at hg'; injection hg' with hg'; injection hg' with _ hg' _; exact tRow_rat hg'.symm
 have r0 : Row w g 22 cur.toList := hg'
 have r1 := r0.grown hg hne
 have r2 := r1.set_ i u'
 have oo := Only.one g w1 i u'
 have h1 := (h.tab.put (i := xs.length + i) (v := u) (v' := u') (l' := l') (w' := w1) (by rw [List.getElem?_append_right (by omega), Nat.add_sub_cancel_left]; exact hi) hnew hg hk hv).only oo r1 tRow_u32 tRow_rat
 rw [List.set_append_right _ _ (by omega), Nat.add_sub_cancel_left, h.lx, List.set_append_right _ _ (by omega), Nat.add_sub_cancel_left] at h1
 refine ⟨⟨?_, .inr ⟨g, cap, (cur.toList.set i u').toArray, by rw [List.length_set], hb, r2, by rw [List.length_set]; exact hc, hmx, ?_, ?_⟩⟩, h1, h.lx, fun x hx => ?_⟩
 ·simp
 ·simpa using hs'
 ·rw [List.length_set] at *
  simp only [List.toList_toArray, List.take_set, ht]
 ·rcases List.mem_or_eq_of_mem_set hx with hx | rfl
  ·exact h.sl x hx
  ·exact hu
end
theorem wp_append_tabx {w : World} {o : Oper} {a : Act} {K : Act -> World -> Prop} {Q : Exit -> Act -> World -> Prop} (s x : Operand) (ho : o.op = .call { callee := .builtin .append, args := #[s, x], argTypes := #[29, 29] })
 {lo : Nat} {v : Value} {hs xs : List Value} {t ls : List (List Rat)} {g : Nat} {row : List Rat} {A : Option Addr} {n c : Nat} (hv : a.eval s = v) (hown : TabX w lo v hs t xs ls)
 (hx : a.eval x = .slice (some ⟨g, 0, none⟩) 1 1) (hrow : Row w g 22 [.slice A n c]) (hnew : RowU w lo (.slice A n c) row) (hap : ∀ u ∈ xs ++ hs, ∀ k, u.ownBlock = some k -> (Value.slice A n c).ownBlock ≠ some k) (hlen : hs.length <= 3000000) (hbase : lo <= w.heap.size)
 (h : ∀ v' w', TabX w' lo v' (hs ++ [.slice A n c]) (t ++ [row]) xs ls -> w.grownBy w' v.ownBlock -> (v'.ownBlock = v.ownBlock ∨ v'.ownBlock = some w.heap.size) -> K (a.put o.dst v') w') : o.wp Tryz.prog a w K Q := by
 refine wp_append_own_ s x _ ho lo 22 _ 1 24 Tryz.underlying29 info_row rfl (by omega) (by omega) v hs.length _ hv hown.own ⟨g, 0, none⟩ 1 1 [.slice A n c] hx rfl (fun j u hj => by rw [Go.WideShapes.add_plain, Nat.zero_add]; exact hrow.cell hj) (by simp [Value.oneCell']) (by omega) hbase ?_
 intro v' w' k1 k2 k3
 have hk := KeepU.grown k2 hown.own tRow_u32
 have far : ∀ k cs, Row w k 36 cs -> some k ≠ v.ownBlock := fun k cs r e => by
  obtain ⟨-, q3⟩ := hown.own
  rcases q3 with ⟨rfl, -⟩ | ⟨g2, c2, cur2, rfl, -, hg2, -⟩
  ·cases e
  ·injection e with e; subst e
   rw [r] at hg2; injection hg2 with hg2; injection hg2 with _ hg2 _; exact tRow_rat hg2.symm
 have hne : ∀ k, (Value.slice A n c).ownBlock = some k -> some k ≠ v.ownBlock := fun k hk2 => by
  obtain ⟨ys, -, q2⟩ := hnew.owns
  rcases q2 with ⟨e0, -⟩ | ⟨g1, c1, cur1, e0, -, hg1, -⟩
  ·injection e0 with e1 _ _; subst e1; cases hk2
  ·injection e0 with e1 _ _; subst e1
   injection hk2 with hk2; subst hk2
   exact far _ cur1.toList hg1
 have hnew' : RowU w' lo (.slice A n c) row := hnew.keep hk fun k hk2 => k2.block k (OutRats.lt hnew k hk2).2 (hne k hk2)
 have ht' : TabU w' lo (xs ++ hs) (ls ++ t) := hown.tab.keep hk fun u hu k huk => by
  obtain ⟨cs, r⟩ := hown.tab.ratBlock hu huk
  exact k2.block k r.lt (far k cs r)
 refine h v' w' ⟨by rw [List.length_append]; exact k1, ?_, hown.lx, fun u hu => ?_⟩ k2 k3
 ·rw [<- List.append_assoc, <- List.append_assoc]
  obtain ⟨ZS, hZS⟩ : ∃ ZS, ZS = xs ++ hs := ⟨_, rfl⟩
  obtain ⟨ZT, hZT⟩ : ∃ ZT, ZT = ls ++ t := ⟨_, rfl⟩
  rw [<- hZS] at ht' hap ⊢
  rw [<- hZT] at ht' ⊢
  have key : ∀ (j : Nat) (u : Value), (ZS ++ [Value.slice A n c])[j]? = some u -> (j < ZS.length /\ ZS[j]? = some u) ∨ (j = ZS.length /\ u = .slice A n c) := fun j u hu => by
   by_cases hj : j < ZS.length
   ·rw [List.getElem?_append_left hj] at hu; exact .inl ⟨hj, hu⟩
   ·have hlt := (List.getElem?_eq_some_iff.1 hu).1
    have e : j = ZS.length := by simp at hlt; omega
    subst e
    rw [List.getElem?_append_right (Nat.le_refl _), Nat.sub_self] at hu
    simp at hu; exact .inr ⟨rfl, hu.symm⟩
  refine ⟨by simp [ht'.len], fun j u l e1 e2 => ?_, fun j m u u' hjm e1 e2 k hk1 hk2 => ?_⟩
  ·rcases key j u e1 with ⟨hj, hu⟩ | ⟨rfl, rfl⟩
   ·rw [List.getElem?_append_left (by rw [<- ht'.len]; exact hj)] at e2
    exact ht'.row j u l hu e2
   ·rw [ht'.len, List.getElem?_append_right (Nat.le_refl _), Nat.sub_self] at e2
    simp at e2; subst e2; exact hnew'
  ·rcases key j u e1 with ⟨hj, hu⟩ | ⟨rfl, rfl⟩
   ·rcases key m u' e2 with ⟨hm, hu'⟩ | ⟨rfl, rfl⟩
    ·exact ht'.apart j m u u' hjm hu hu' k hk1 hk2
    ·exact hap u (List.mem_of_getElem? hu) k hk1 hk2
   ·rcases key m u' e2 with ⟨hm, hu'⟩ | ⟨rfl, rfl⟩
    ·exact hap u' (List.mem_of_getElem? hu') k hk2 hk1
    ·exact hjm rfl
 ·rcases List.mem_append.1 hu with hu | hu
  ·exact hown.sl u hu
  ·rw [List.mem_singleton.1 hu]; exact ⟨_, _, _, rfl⟩
theorem wp_append_loose {w : World} {o : Oper} {a : Act} {K : Act -> World -> Prop} {Q : Exit -> Act -> World -> Prop} (s x : Operand) (ho : o.op = .call { callee := .builtin .append, args := #[s, x], argTypes := #[22, 22] })
 {lo : Nat} {v : Value} {hs xs : List Value} {t ls : List (List Rat)} (i : Nat) {b : Value} {bl : List Rat} {g : Nat} {q : Rat} {e e' : Bool} {A A' : Option Addr} {n c n' c' B : Nat} (hb : a.eval s = b) (hown : TabX w lo v hs t xs ls) (hi : xs[i]? = some b) (hl : ls[i]? = some bl)
 (hx : a.eval x = .slice (some ⟨g, 0, none⟩) 1 1) (hrow : Row w g 36 [.bool e, .slice A n c, .bool e', .slice A' n' c']) (hq : OwnR w B (.agg #[.bool e, .slice A n c, .bool e', .slice A' n' c']) q) (hlen : bl.length <= 3000000) (hbase : lo <= w.heap.size)
 (h : ∀ b' w', TabX w' lo v hs t (xs.set i b') (ls.set i (bl ++ [q])) -> w.grownBy w' b.ownBlock -> (b'.ownBlock = b.ownBlock ∨ b'.ownBlock = some w.heap.size) -> K (a.put o.dst b') w') : o.wp Tryz.prog a w K Q := by
 have hbx := hown.x hi hl
 refine wp_append_rat3 s x ho hb hbx hx hrow (hbx.elem hq) (by omega) hbase fun b' w' k1 k2 k3 => ?_
 exact h b' w' (hown.growX hi hl k1 k2 k3) k2 k3
end Go.Proofs.YtfokplidiboabaaGreat
namespace Go.Proofs.YtfokplidiboabaaGreat
open Go.RowKit Go.Shelf Go.ChangeShapes Go.WideShapes Go.Deep
def EAnyRow : RowE := fun w r x => Rats EAny w r.coef x.coef /\ EAny w r.e.val x.rhs /\ IFit_ x.sense
theorem EAnyRow.later (w w' : World) (r : WCells) (x : PRow) (h : EAnyRow w r x) (hb : Later w w') : EAnyRow w' r x := ⟨h.1.later EAny.later hb, EAny.later _ _ _ _ h.2.1 hb, h.2.2⟩
def ArgLp (w : World) (v : Value) : Prop := ∃ A1 n1 c1 A2 n2 c2 A3 n3 c3 A4 n4 c4 A5 n5 c5 cost rows lo hi opn, v = .agg #[.slice A1 n1 c1, .slice A2 n2 c2, .slice A3 n3 c3, .slice A4 n4 c4, .slice A5 n5 c5] /\
 Rats EAny w (.slice A1 n1 c1) cost /\ LRows EAnyRow w (.slice A2 n2 c2) rows /\ Rats EAny w (.slice A3 n3 c3) lo /\ Rats EAny w (.slice A4 n4 c4) hi /\ Bools w (.slice A5 n5 c5) opn
section
variable {H : Type} {enc : TypeId × Value -> H} {w : World} {base : Nat} {spare : Nat -> Bool} {held : Bool}
theorem cellsRow_ : Tryz.prog.cellsOf 60 = 6 := by kernel_rfl
theorem cellsLp_ : Tryz.prog.cellsOf 26 = 5 := by kernel_rfl
theorem cellsRows_ : Tryz.prog.cellsOf 23 = 1 := by kernel_rfl
theorem cellsBools_ : Tryz.prog.cellsOf 24 = 1 := by kernel_rfl
theorem cellsInt_ : Tryz.prog.cellsOf 3 = 1 := by kernel_rfl
instance : Inhabited PRow := ⟨⟨[], 0, 0, true⟩⟩
theorem wf_fit_ {z : Int} (h : (Lit.int .i64 z).wf = true) : IFit_ z := by
 have h3 : -9223372036854775808 <= z /\ z <= 9223372036854775807 := by simpa [Lit.wf, IntKind.min, IntKind.max, IntKind.bits, IntKind.signed] using h
 unfold IFit_; omega
theorem row_open {fuel : Nat} {cs : List Value} {y : DataW H × List MemPlace} (h : DataW.trod enc Tryz.prog w base spare held fuel 60 cs = some y) : ∃ (r : WCells) (x : PRow), cs = r.cells x.sense /\ EAnyRow w r x := by
 obtain ⟨xs, m, -, -, hlen, hxl, hx⟩ := DataW.trod_struct Tryz.underlying60 h
 have h0 := hx 0 _ rfl; have h1 := hx 1 _ rfl; have h2 := hx 2 _ rfl
 rw [cellsRow_] at hlen
 match cs, hlen, xs, hxl with
 | [c0, c1, c2, c3, c4, c5], _, [y0, y1, y2], _ =>
   simp only [List.getElem_toArray, List.getElem_cons_zero, List.getElem_cons_succ, List.getElem?_cons_zero, List.getElem?_cons_succ, cellsRats, cellsInt_, cellsRat, List.drop_zero, List.drop_succ_cons, List.take_succ_cons, List.take_zero] at h0 h1 h2
   obtain ⟨A, n, c, l, e0, g0⟩ := rats_open h0
   obtain ⟨k1, e1, -, f1⟩ := DataW.trod_int Tryz.underlying3 h1
   obtain ⟨s, A2, n2, c2, s', A2', n2', c2', q, e2, g2⟩ := rat_open h2
   simp at e0 e1 e2
   obtain ⟨rfl, rfl, rfl, rfl⟩ := e2
   subst e0 e1
   exact ⟨⟨A, n, c, ⟨s, A2, n2, c2, s', A2', n2', c2'⟩⟩, ⟨l, k1, q, true⟩, rfl, g0, g2, wf_fit_ f1⟩
theorem lrows_open {fuel : Nat} {cs : List Value} {y : DataW H × List MemPlace} (h : DataW.trod enc Tryz.prog w base spare held fuel 23 cs = some y) :
 ∃ A n c l, cs = [.slice A n c] /\ LRows EAnyRow w (.slice A n c) l := by
 rcases open_slice Tryz.underlying23 h with ⟨rfl, -⟩ | ⟨a, n, c, m, f, D, Pl, rfl, -, hl, hm, hmm, -, hx⟩
 ·exact ⟨_, _, _, [], rfl, LRows.nil _ _⟩
 ·have hnm : n <= m := by rw [hmm]; split <;> omega
  rcases Nat.eq_zero_or_pos n with rfl | hpos
  ·exact ⟨_, _, _, [], rfl, some a, c, rfl, by simp, hm, fun i q hi => by simp at hi⟩
  obtain ⟨b0, off0, spot⟩ := a
  obtain rfl : spot = none := by
   obtain ⟨cs, h1, h2⟩ := hx 0 (by omega)
   obtain ⟨r, x, rfl, -⟩ := row_open h2
   rw [cellsRow_] at h1
   obtain ⟨-, -, h3⟩ := World.cells?_some h1
   have := World.cell?_spot (h3 0 (by omega))
   simpa [Addr.add] using this
  have key : ∀ i, i < n -> ∃ x : PRow, ∃ r : WCells, (∀ (j : Nat) u, (r.cells x.sense)[j]? = some u -> w.cell? ⟨b0, off0 + i * 6 + j, none⟩ = some u) /\ EAnyRow w r x := fun i hi => by
   obtain ⟨cs, h1, h2⟩ := hx i (by omega)
   obtain ⟨r, x, rfl, hok⟩ := row_open h2
   rw [cellsRow_] at h1
   obtain ⟨-, -, h3⟩ := World.cells?_some h1
   refine ⟨x, r, fun j u hj => ?_, hok⟩
   have hjm : j < 6 := (List.getElem?_eq_some_iff.1 hj).1
   have h5 := h3 j hjm
   simp only [add_plain] at h5
   rw [h5, hj]
  obtain ⟨Q, hQ⟩ := choose_lt (α := PRow) key
  refine ⟨_, _, _, (List.range n).map Q, rfl, ⟨some ⟨b0, off0, none⟩, c, by simp, by simpa using hl, hm, fun i q hi => ?_⟩⟩
  have hin : i < n := by
   have := (List.getElem?_eq_some_iff.1 hi).1
   simpa using this
  simp [hin] at hi
  subst hi
  exact ⟨b0, off0, rfl, hQ i hin⟩
theorem bools_open {fuel : Nat} {cs : List Value} {y : DataW H × List MemPlace} (h : DataW.trod enc Tryz.prog w base spare held fuel 24 cs = some y) :
 ∃ A n c l, cs = [.slice A n c] /\ Bools w (.slice A n c) l := by
 rcases open_slice Tryz.underlying24 h with ⟨rfl, -⟩ | ⟨a, n, c, m, f, D, Pl, rfl, -, hl, hm, hmm, -, hx⟩
 ·exact ⟨_, _, _, [], rfl, none, 0, rfl, by simp, by decide, fun i q hi => by simp at hi⟩
 ·have hnm : n <= m := by rw [hmm]; split <;> omega
  rcases Nat.eq_zero_or_pos n with rfl | hpos
  ·exact ⟨_, _, _, [], rfl, some a, c, rfl, by simp, hm, fun i q hi => by simp at hi⟩
  obtain ⟨b0, off0, spot⟩ := a
  obtain rfl : spot = none := by
   obtain ⟨cs, h1, h2⟩ := hx 0 (by omega)
   obtain ⟨b, rfl, -⟩ := DataW.trod_bool Tryz.underlying4 h2
   rw [cellsBool] at h1
   obtain ⟨-, -, h3⟩ := World.cells?_some h1
   have := World.cell?_spot (h3 0 (by omega))
   simpa [Addr.add] using this
  have key : ∀ i, i < n -> ∃ x : Bool, w.cell? ⟨b0, off0 + i, none⟩ = some (.bool x) := fun i hi => by
   obtain ⟨cs, h1, h2⟩ := hx i (by omega)
   obtain ⟨b, rfl, -⟩ := DataW.trod_bool Tryz.underlying4 h2
   rw [cellsBool] at h1
   obtain ⟨-, -, h3⟩ := World.cells?_some h1
   have h5 := h3 0 (by omega)
   simp only [add_plain, Nat.mul_one, Nat.add_zero] at h5
   exact ⟨b, h5⟩
  obtain ⟨Q, hQ⟩ := choose_lt (α := Bool) key
  refine ⟨_, _, _, (List.range n).map Q, rfl, ⟨some ⟨b0, off0, none⟩, c, by simp, by simpa using hl, hm, fun i q hi => ?_⟩⟩
  have hin : i < n := by
   have := (List.getElem?_eq_some_iff.1 hi).1
   simpa using this
  simp [hin] at hi
  subst hi
  exact ⟨b0, off0, rfl, hQ i hin⟩
theorem arg_lp {r : Reach} {b0 : Nat} {v : Value} {d : DataW H} {p : List MemPlace} (hv : Value.okWide Tryz.prog w r b0 26 v) (h : DataW.Trod enc Tryz.prog w base spare held 26 v d p) : ArgLp w v := by
 obtain ⟨cs, rfl, hsz⟩ := okWide_struct Tryz.underlying26 hv
 obtain ⟨fuel, hf⟩ := h
 obtain ⟨xs, m, -, hd, hlen, hxl, hx⟩ := DataW.trod_struct Tryz.underlying26 hf
 have h0 := hx 0 _ rfl; have h1 := hx 1 _ rfl; have h2 := hx 2 _ rfl; have h3 := hx 3 _ rfl; have h4 := hx 4 _ rfl
 rw [cellsLp_] at hlen
 obtain ⟨l⟩ := cs
 match l, hlen, xs, hxl with
 | [c0, c1, c2, c3, c4], _, [y0, y1, y2, y3, y4], _ =>
   simp only [List.getElem_toArray, List.getElem_cons_zero, List.getElem_cons_succ, List.getElem?_cons_zero, List.getElem?_cons_succ, Value.cells, cellsRats, cellsRows_, cellsBools_, List.drop_zero, List.drop_succ_cons, List.take_succ_cons, List.take_zero] at h0 h1 h2 h3 h4
   obtain ⟨A1, n1, d1, l1, e0, g0⟩ := rats_open h0
   obtain ⟨A2, n2, d2, l2, e1, g1⟩ := lrows_open h1
   obtain ⟨A3, n3, d3, l3, e2, g2⟩ := rats_open h2
   obtain ⟨A4, n4, d4, l4, e3, g3⟩ := rats_open h3
   obtain ⟨A5, n5, d5, l5, e4, g4⟩ := bools_open h4
   simp at e0 e1 e2 e3 e4
   subst e0 e1 e2 e3 e4
   exact ⟨_, _, _, _, _, _, _, _, _, _, _, _, _, _, _, l1, l2, l3, l4, l5, rfl, g0, g1, g2, g3, g4⟩
end
end Go.Proofs.YtfokplidiboabaaGreat
namespace Go.Proofs.YtfokplidiboabaaGreat
open Go.RowKit Go.Shelf
attribute [local go_sem ↓] Go.wp_at_zero Go.wp_at_succ
theorem wp_append_rowu {w : World} {o : Oper} {a : Act} {K : Act -> World -> Prop} {Q : Exit -> Act -> World -> Prop} (s x : Operand) (ho : o.op = .call { callee := .builtin .append, args := #[s, x], argTypes := #[22, 22] })
 {lo B : Nat} {v : Value} {l : List Rat} {g : Nat} {q : Rat} {t t' : Bool} {A A' : Option Addr} {n c n' c' : Nat} (hs : a.eval s = v) (hown : RowU w lo v l)
 (hx : a.eval x = .slice (some ⟨g, 0, none⟩) 1 1) (hrow : Row w g 36 [.bool t, .slice A n c, .bool t', .slice A' n' c']) (hq : OwnR w B (.agg #[.bool t, .slice A n c, .bool t', .slice A' n' c']) q) (hlen : l.length <= 3000000) (hbase : lo <= w.heap.size)
 (h : ∀ v' w', RowU w' lo v' (l ++ [q]) -> w.grownBy w' v.ownBlock -> (v'.ownBlock = v.ownBlock ∨ v'.ownBlock = some w.heap.size) -> K (a.put o.dst v') w') : o.wp Tryz.prog a w K Q :=
 wp_append_rat3 s x ho hs hown hx hrow (hown.elem hq) (by omega) hbase fun v' w' k1 k2 k3 => h v' w' (hown.grew k1 k2) k2 k3
theorem wpList_append_rowu {w : World} {ops : Array Oper} {rest : List Oper} {o : Oper} {a : Act} {Q : Exit -> Act -> World -> Prop} (hgd : o.guard = none) (s x : Operand) (ho : o.op = .call { callee := .builtin .append, args := #[s, x], argTypes := #[22, 22] })
 {lo B : Nat} {v : Value} {l : List Rat} {g : Nat} {q : Rat} {t t' : Bool} {A A' : Option Addr} {n c n' c' : Nat} (hs : a.eval s = v) (hown : RowU w lo v l)
 (hx : a.eval x = .slice (some ⟨g, 0, none⟩) 1 1) (hrow : Row w g 36 [.bool t, .slice A n c, .bool t', .slice A' n' c']) (hq : OwnR w B (.agg #[.bool t, .slice A n c, .bool t', .slice A' n' c']) q) (hlen : l.length <= 3000000) (hbase : lo <= w.heap.size)
 (h : ∀ v' w', RowU w' lo v' (l ++ [q]) -> w.grownBy w' v.ownBlock -> (v'.ownBlock = v.ownBlock ∨ v'.ownBlock = some w.heap.size) -> wpList Tryz.prog ops Q rest (a.put o.dst v') w') : wpList Tryz.prog ops Q (o :: rest) a w :=
 wpList_append_rat3 hgd s x ho hs hown hx hrow (hown.elem hq) (by omega) hbase fun v' w' k1 k2 k3 => h v' w' (hown.grew k1 k2) k2 k3
theorem RowU.lt {w : World} {lo : Nat} {v : Value} {l : List Rat} (h : RowU w lo v l) : ∀ k, v.ownBlock = some k -> lo <= k /\ k < w.heap.size := OutRats.lt h
theorem RowU.form {w : World} {lo : Nat} {v : Value} {l : List Rat} (h : RowU w lo v l) : ∃ A n c, v = .slice A n c := by
 obtain ⟨xs, -, k2⟩ := h.owns
 rcases k2 with ⟨rfl, -⟩ | ⟨g, c, cur, rfl, -⟩ <;> exact ⟨_, _, _, rfl⟩
set_option maxHeartbeats 2000000 in
theorem pone_calls (w : World) : Calls Tryz.prog 67 #[] w (Ret w fun w' v => OwnR w' w.heap.size v 1) := by
 go_enter Tryz.func67, Tryz.ntmps67
 go_upto_region 1 with fail
 obtain ⟨W0, hW0⟩ : ∃ W0, W0 = w.alloc (Obj.cells #[Value.bool false, Value.slice none 0 0, Value.bool false, Value.slice none 0 0] 36) := ⟨_, rfl⟩
 obtain ⟨hb0, r1, hsz0⟩ := boxes1 w [.bool false, .slice none 0 0, .bool false, .slice none 0 0] 36 hW0
 have R1 := hide r1; have B0' := hide hb0; have HW0 := hide hW0
 clear r1 hb0 hW0
 rw [<- HW0.out]
 go_wp2_with fail
 ((with_reducible refine (rof1_calls W0 1 (by omega) (by omega) 1 (by decide +kernel)).mono ?_); rintro e w1 ⟨v1, ok, rfl, ⟨o1, rfl⟩, b1⟩)
 obtain ⟨s1, P1, q1, e1, P1', q1', e1', rfl, o1⟩ := o1.open_; have O1 := hide o1; clear o1
 have HB1 := hide b1
 clear b1
 go_upto_region 2 with fail
 obtain ⟨W1, hW1⟩ : ∃ W1, W1 = w1.alloc (Obj.cells #[Value.bool s1, Value.slice P1 q1 e1, Value.bool false, Value.slice P1' q1' e1'] 36) := ⟨_, rfl⟩
 obtain ⟨g1, hg1⟩ : ∃ g1, g1 = w1.heap.size := ⟨_, rfl⟩
 have hb : Later w1 W1 := by rw [hW1]; exact (Later.refl _).alloc _
 have hr : Row W1 g1 36 [.bool s1, .slice P1 q1 e1, .bool false, .slice P1' q1' e1'] := by rw [hW1, hg1]; exact Row.new _ _ _
 rw [<- hW1, <- hg1]
 have hL := HB1.out.trans hb
 have hrow := R1.out.later hL
 have hsz := hL.size
 obtain ⟨d1, d2, d3, d4, d5, d6, d7, d8⟩ := row_cells4 hrow
 obtain ⟨f1, f2, f3, f4, f5, f6, f7, f8⟩ := row_cells4 hr
 have hs : w.heap.size < W0.heap.size := R1.out.lt
 have hs2 := HB1.out.size
 have HR := hide hrow; have HL := hide (B0'.out.trans hL)
 have HO := hide (OwnR.later O1.out hb)
 clear hrow hL hb hr hW1 hg1
 go_wp2_with fail
 refine bodyPost_ret (results_rat rfl rfl (HR.out.four _ _ _ _)) rfl ?_
 have oo := Only.four w.heap.size W1 (.bool s1) (.slice P1 q1 e1) (.bool false) (.slice P1' q1' e1')
 exact ⟨_, rfl, (HO.out.only oo (by omega)).weaken (by omega), HL.out.only oo (Nat.le_refl _)⟩
set_option maxHeartbeats 4000000 in
theorem pplain_calls (w : World) (v : Value) (l : List Rat) (k : Nat) (h : Rats (ERaw k) w v l) (hl : l.length <= 1000000) (hk : k <= 100000000) :
 Calls Tryz.prog 63 #[v] w (Ret w fun w' v' => RowU w' w.heap.size v' l) := by
 obtain ⟨A0, n0, c0, rfl, hn, -⟩ := h.form
 have H := hide h; have HN := hide hn
 have hn9 : n0 <= 1000000 := by omega
 clear h hn hl
 go_enter Tryz.func63, Tryz.ntmps63
 go_wp2_with fail
 go_loopw [3, 8] (fun o i wr => ∃ j : Nat, j <= n0 /\ i = .int .i64 (j : Int) /\ RowU wr w.heap.size o (l.take j) /\ Later w wr) (fun _ i _ => (n0 - intOf i).toNat)
 case atStart => exact ⟨0, by omega, rfl, RowU.nil _ _, Later.refl _⟩
 case round =>
  obtain ⟨j, hj, rfl, hout, hL⟩ := hrel
  have HOUT := hide hout; have HL := hide hL
  clear hout hL
  by_cases hjn : j < n0
  ·obtain ⟨x, hx⟩ : ∃ x, l[j]? = some x := ⟨l[j]'(by have := HN.out; omega), List.getElem?_eq_getElem _⟩
   obtain ⟨b1, off1, sx, P1, q1, e1, sx', P2, q2, e2, rfl, x1, x2, x3, x4, ex⟩ := (H.out.later ERaw.later HL.out).at_ hx
   have HT : Hid (l.take (j+1) = l.take j ++ [x]) := hide (by rw [List.take_add_one, hx]; rfl)
   have hlm : (l.take j).length <= 3000000 := by rw [List.length_take]; omega
   have HLM := hide hlm
   have hj0 : (0 : Int) <= (j : Int) := by omega
   have hj1 : (j : Int) < n0 := by omega
   have HEX := hide (show RawR wr (.agg #[.bool sx, .slice P1 q1 e1, .bool sx', .slice P2 q2 e2]) x k from ex)
   clear hx ex hlm
   go_upto_region 5 with fail
   obtain ⟨wx, hwx⟩ : ∃ wx, wx = wr.alloc (Obj.cells #[Value.bool sx, Value.slice P1 q1 e1, Value.bool sx', Value.slice P2 q2 e2] 36) := ⟨_, rfl⟩
   obtain ⟨gx, hgx⟩ : ∃ gx, gx = wr.heap.size := ⟨_, rfl⟩
   have bwx : Later wr wx := by rw [hwx]; exact (Later.refl _).alloc _
   have rgx : Row wx gx 36 [.bool sx, .slice P1 q1 e1, .bool sx', .slice P2 q2 e2] := by rw [hwx, hgx]; exact Row.new _ _ _
   rw [<- hwx, <- hgx]
   have HB := hide bwx; have RX := hide rgx
   clear hwx hgx bwx rgx x1 x2 x3 x4
   have f0 := RX.out.cell (i := 0) rfl; have f1 := RX.out.cell (i := 1) rfl; have f2 := RX.out.cell (i := 2) rfl; have f3 := RX.out.cell (i := 3) rfl
   go_wp2_with (first
    | ((with_reducible refine (rplain_calls _ _ x k (HEX.out.later HB.out) (by omega)).mono ?_); rintro e w5 ⟨v5, rfl, o5, b5⟩; obtain ⟨s5, P5, q5, e5, P5', q5', e5', rfl, o5⟩ := o5.open_; have O5 := hide o5; clear o5; have HB5 := hide (HB.out.trans b5); clear b5)
    | (at_builtin; refine wpList_append_rowu rfl _ _ rfl rfl (HOUT.out.later (HB5.out.alloc _)) rfl (Row.new w5 36 [.bool s5, .slice P5 q5 e5, .bool false, .slice P5' q5' e5']) (OwnR.later O5.out ((Later.refl w5).alloc _)) HLM.out (by rw [World.size_alloc]; have h1 := HL.out.size; have h2 := HB5.out.size; omega) ?_; intro v9 w9 k1 k2 k3))
   have hbl := HOUT.out.lt
   exact ⟨⟨j+1, by omega, by go_num, by rw [HT.out]; exact k1, ((HL.out.trans HB5.out).alloc _).grown k2 (fun k hk => (hbl k hk).1)⟩, by simp [intOf]; omega⟩
  ·have hj1 : ¬ (j : Int) < n0 := by omega
   have HF : Hid (l.take j = l) := hide (List.take_of_length_le (by have := HN.out; omega))
   rw [HF.out] at HOUT
   go_wp2_with fail
   go_ret
   exact ⟨_, rfl, HOUT.out, HL.out⟩
end Go.Proofs.YtfokplidiboabaaGreat
namespace Go.Proofs.YtfokplidiboabaaGreat
open Go.RowKit Go.Shelf
attribute [local go_sem ↓] Go.wp_at_zero Go.wp_at_succ
theorem cmpq_lt {a b : Rat} {c : Int} (h : cmpQ a b = c) (hc : c < 0) : a < b := by
 unfold cmpQ at h
 split at h
 ·assumption
 ·split at h <;> omega
theorem cmpq_ge {a b : Rat} {c : Int} (h : cmpQ a b = c) (hc : ¬ c < 0) : b <= a := by
 unfold cmpQ at h
 split at h
 ·omega
 ·grind
theorem tab_three {E : Elem} {w : World} {g : Nat} {A B C : Option Addr} {n c m d l e : Nat} {p q r : List Rat} (hr : Row w g 22 [.slice A n c, .slice B m d, .slice C l e]) (h : Rats E w (.slice A n c) p) (k : Rats E w (.slice B m d) q) (k2 : Rats E w (.slice C l e) r) :
 Tab E w (.slice (some ⟨g, 0, none⟩) 3 3) [p, q, r] := by
 refine ⟨_, 3, rfl, Nat.le_refl _, by decide, fun i row hi => ?_⟩
 match i, hi with
 | 0, hi => simp at hi; subst hi; exact ⟨g, 0, A, n, c, rfl, hr.cell rfl, h⟩
 | 1, hi => simp at hi; subst hi; exact ⟨g, 0, B, m, d, rfl, hr.cell rfl, k⟩
 | 2, hi => simp at hi; subst hi; exact ⟨g, 0, C, l, e, rfl, hr.cell rfl, k2⟩
 | i+3, hi => simp at hi
theorem rats_flen {w : World} {v : Value} {l m : List Rat} {E E' : Elem} (h : Rats E w v l) (k : Rats E' w v m) : l.length = m.length := by
 obtain ⟨A, n, c, rfl, e, -⟩ := h.form
 rw [<- e]; exact k.len_
def okRow (n : Nat) (r : PRow) : Prop := r.coef.length = n /\ (0 <= r.sense /\ r.sense <= 2) /\ r.f = true
set_option maxHeartbeats 4000000 in
theorem pmay_calls (w : World) (A1 A2 A3 A4 A5 : Option Addr) (n1 n2 n3 n4 n5 c1 c2 c3 c4 c5 : Nat) (k : Nat) (P : PLp) (h : LpIn w (.slice A1 n1 c1) (.slice A2 n2 c2) (.slice A3 n3 c3) (.slice A4 n4 c4) (.slice A5 n5 c5) k P) :
 Calls Tryz.prog 21 #[.agg #[.slice A1 n1 c1, .slice A2 n2 c2, .slice A3 n3 c3, .slice A4 n4 c4, .slice A5 n5 c5]] w (RetV w (.bool (lpB P))) := by
 have H := hide h
 have hc1 := h.cost; have hr1 := h.rows; have hl1 := h.lo; have hh1 := h.hi; have ho1 := h.opn
 have L1 := hide hc1.len_; have L2 := hide hr1.len_; have L3 := hide hl1.len_; have L4 := hide hh1.len_; have L5 := hide ho1.len_
 have hn1 : n1 <= 1000 := by have := h.cl; have := L1.out; omega
 have hn2 : n2 <= 1000 := by have := h.rl; have := L2.out; omega
 have hn3 : n3 <= 1000 := by have := h.ll; have := L3.out; omega
 have hn4 : n4 <= 1000 := by have := h.hl; have := L4.out; omega
 have hn5 : n5 <= 1000 := by have := h.ol; have := L5.out; omega
 have hkk := h.kk
 clear h hc1 hr1 hl1 hh1 ho1
 obtain ⟨u, hu⟩ : ∃ u, lpB P = u := ⟨_, rfl⟩
 rw [hu]
 have HU := hide hu
 clear hu
 obtain ⟨fC, fL, fH, g1, g2, g3, hf⟩ := H.out.flags
 have G1 := hide g1; have G2 := hide g2; have G3 := hide g3; have HFL := hide hf
 have LG : Hid (fC.length <= 1000 /\ fL.length <= 1000 /\ fH.length <= 1000) := hide ⟨by have h1 := rats_flen H.out.cost g1; have h2 := H.out.cl; omega, by have h1 := rats_flen H.out.lo g2; have h2 := H.out.ll; omega, by have h1 := rats_flen H.out.hi g3; have h2 := H.out.hl; omega⟩
 clear g1 g2 g3 hf
 obtain ⟨W0, hW0⟩ : ∃ W0, W0 = (w.alloc (Obj.cells #[Value.slice A1 n1 c1, Value.slice A2 n2 c2, Value.slice A3 n3 c3, Value.slice A4 n4 c4, Value.slice A5 n5 c5] 26)) := ⟨_, rfl⟩
 obtain ⟨hb0, r0, hsz0⟩ := boxes1 w [.slice A1 n1 c1, .slice A2 n2 c2, .slice A3 n3 c3, .slice A4 n4 c4, .slice A5 n5 c5] 26 hW0
 have B0 := hide hb0; have HW0 := hide hW0; have HSZ0 := hide hsz0
 have R0 := hide r0
 clear hb0 hW0 hsz0 r0
 go_enter Tryz.func21, Tryz.ntmps21
 go_upto_region 1 with fail
 rw [<- HW0.out]
 have r_d := R0.out.later (Later.refl W0)
 have d0 := r_d.cell (i := 0) rfl; have d1 := r_d.cell (i := 1) rfl; have d2 := r_d.cell (i := 2) rfl; have d3 := r_d.cell (i := 3) rfl; have d4 := r_d.cell (i := 4) rfl
 clear r_d
 by_cases g : n1 < 1
 ·have t1 : decide ((n1 : Int) < 1) = true := by simp; omega
  have HF : Hid (u = false) := hide (by rw [<- HU.out]; exact lpB_not.2 (fun hp => by have := hp.n1; have := L1.out; omega))
  go_wp2_with fail
  go_ret
  exact ⟨by rw [HF.out]; rfl, B0.out⟩
 have t2 : decide ((n1 : Int) < 1) = false := by simp; omega
 by_cases g : 24 < n1
 ·have t1 : decide ((24 : Int) < (n1 : Int)) = true := by simp; omega
  have HF : Hid (u = false) := hide (by rw [<- HU.out]; exact lpB_not.2 (fun hp => by have := hp.n24; have := L1.out; omega))
  go_wp2_with fail
  go_ret
  exact ⟨by rw [HF.out]; rfl, B0.out⟩
 have t3 : decide ((24 : Int) < (n1 : Int)) = false := by simp; omega
 by_cases g : n3 ≠ n1
 ·have t1 : ((n3 : Int) != (n1 : Int)) = true := by rw [bne_iff_ne]; omega
  have HF : Hid (u = false) := hide (by rw [<- HU.out]; exact lpB_not.2 (fun hp => by have := hp.lo; have := L1.out; have := L3.out; omega))
  go_wp2_with fail
  go_ret
  exact ⟨by rw [HF.out]; rfl, B0.out⟩
 have t4 : ((n3 : Int) != (n1 : Int)) = false := by rw [bne_eq_false_iff_eq]; omega
 by_cases g : n4 ≠ n1
 ·have t1 : ((n4 : Int) != (n1 : Int)) = true := by rw [bne_iff_ne]; omega
  have HF : Hid (u = false) := hide (by rw [<- HU.out]; exact lpB_not.2 (fun hp => by have := hp.hi; have := L1.out; have := L4.out; omega))
  go_wp2_with fail
  go_ret
  exact ⟨by rw [HF.out]; rfl, B0.out⟩
 have t5 : ((n4 : Int) != (n1 : Int)) = false := by rw [bne_eq_false_iff_eq]; omega
 by_cases g : n5 ≠ n1
 ·have t1 : ((n5 : Int) != (n1 : Int)) = true := by rw [bne_iff_ne]; omega
  have HF : Hid (u = false) := hide (by rw [<- HU.out]; exact lpB_not.2 (fun hp => by have := hp.opn; have := L1.out; have := L5.out; omega))
  go_wp2_with fail
  go_ret
  exact ⟨by rw [HF.out]; rfl, B0.out⟩
 have t6 : ((n5 : Int) != (n1 : Int)) = false := by rw [bne_eq_false_iff_eq]; omega
 by_cases g : 24 < n2
 ·have t1 : decide ((24 : Int) < (n2 : Int)) = true := by simp; omega
  have HF : Hid (u = false) := hide (by rw [<- HU.out]; exact lpB_not.2 (fun hp => by have := hp.rl; have := L2.out; omega))
  go_wp2_with fail
  go_ret
  exact ⟨by rw [HF.out]; rfl, B0.out⟩
 have t7 : decide ((24 : Int) < (n2 : Int)) = false := by simp; omega
 obtain ⟨uf, huf⟩ : ∃ uf, allFF [fC, fL, fH] = uf := ⟨_, rfl⟩
 have HUF := hide huf
 have HPF : Hid (P.f = uf) := hide (by rw [HFL.out, <- huf]; unfold allFF; simp)
 clear huf
 go_wp2_with fail
 ((with_reducible refine (pall_calls _ _ [fC, fL, fH] (tab_three (Row.new W0 22 [.slice A1 n1 c1, .slice A3 n3 c3, .slice A4 n4 c4]) (G1.out.later EFlag.later (B0.out.alloc _)) (G2.out.later EFlag.later (B0.out.alloc _)) (G3.out.later EFlag.later (B0.out.alloc _))) (by simp) (fun r hr => by have := LG.out; simp at hr; rcases hr with rfl | rfl | rfl <;> omega) uf HUF.out).mono ?_); rintro e w1 ⟨rfl, b1⟩; have HL1 : Hid (Later W0 w1) := hide (((Later.refl W0).alloc _).trans b1); clear b1 d0 d1 d2 d3 d4; have r_d := R0.out.later HL1.out; have d0 := r_d.cell (i := 0) rfl; have d1 := r_d.cell (i := 1) rfl; have d2 := r_d.cell (i := 2) rfl; have d3 := r_d.cell (i := 3) rfl; have d4 := r_d.cell (i := 4) rfl; clear r_d)
 cases uf with
 | false =>
   have HF : Hid (u = false) := hide (by rw [<- HU.out]; exact lpB_not.2 (fun hp => by have h1 := hp.f; rw [HPF.out] at h1; cases h1))
   go_wp2_with fail
   go_ret
   exact ⟨by rw [HF.out]; rfl, B0.out.trans HL1.out⟩
 | true =>
 go_wp2_with fail
 clear t2 t3 t4 t5 t6 t7 d0 d1 d2 d3 d4
 go_loopw [57] (fun i wr => ∃ j : Nat, j <= n2 /\ i = .int .i64 (j : Int) /\ Hid (∀ r ∈ P.rows.take j, okRow n1 r) /\ Later W0 wr) (fun i _ => (n2 - intOf i).toNat)
 case atStart => exact ⟨0, by omega, rfl, hide fun r hr => by simp at hr, HL1.out⟩
 case round =>
  obtain ⟨j, hj, rfl, hpre, hL⟩ := hrel
  have HL := hide hL
  clear hL
  by_cases hjn : j < n2
  ·obtain ⟨x, hx⟩ : ∃ x, P.rows[j]? = some x := ⟨P.rows[j]'(by have := L2.out; omega), List.getElem?_eq_getElem _⟩
   obtain ⟨b2, off2, rfl, r, x0, x1, x2, x3, x4, x5, he⟩ := (H.out.rows.later ERow.later (B0.out.trans HL.out)).at6 hx
   have HX := hide hx; have HE := hide he
   have HRN : Hid (r.n = x.coef.length) := hide he.coef.len_
   have hj0 : (0 : Int) <= (j : Int) := by omega
   have hj1 : (j : Int) < n2 := by omega
   have hsf := he.sfit
   unfold IFit_ at hsf
   clear hx he
   go_upto_region 7 with fail
   obtain ⟨wx, hwx⟩ : ∃ wx, wx = wr.alloc (Obj.cells #[Value.slice r.A r.n r.c, Value.int .i64 x.sense, Value.bool r.e.a, Value.slice r.e.A r.e.n r.e.c, Value.bool r.e.a', Value.slice r.e.A' r.e.n' r.e.c'] 60) := ⟨_, rfl⟩
   obtain ⟨gx, hgx⟩ : ∃ gx, gx = wr.heap.size := ⟨_, rfl⟩
   have bwx : Later wr wx := by rw [hwx]; exact (Later.refl _).alloc _
   have rgx : Row wx gx 60 [.slice r.A r.n r.c, .int .i64 x.sense, .bool r.e.a, .slice r.e.A r.e.n r.e.c, .bool r.e.a', .slice r.e.A' r.e.n' r.e.c'] := by rw [hwx, hgx]; exact Row.new _ _ _
   rw [<- hwx, <- hgx]
   have HB := hide bwx; have RX := hide rgx
   have HLX := hide (HL.out.trans bwx)
   clear hwx hgx bwx rgx x0 x1 x2 x3 x4 x5
   have f0 := RX.out.cell (i := 0) rfl; have f1 := RX.out.cell (i := 1) rfl; have f2 := RX.out.cell (i := 2) rfl; have f3 := RX.out.cell (i := 3) rfl; have f4 := RX.out.cell (i := 4) rfl; have f5 := RX.out.cell (i := 5) rfl
   by_cases g : r.n ≠ n1
   ·have tt1 : ((r.n : Int) != (n1 : Int)) = true := by rw [bne_iff_ne]; omega
    have HF : Hid (u = false) := hide (by rw [<- HU.out]; exact lpB_not.2 (fun hp => by have hrw := hp.rows x (List.mem_of_getElem? HX.out); have h2 := hrw.1; have := L1.out; have := HRN.out; omega))
    go_wp2_with fail
    go_ret
    exact ⟨by rw [HF.out]; rfl, B0.out.trans HLX.out⟩
   have tt2 : ((r.n : Int) != (n1 : Int)) = false := by rw [bne_eq_false_iff_eq]; omega
   by_cases g : x.sense < 0
   ·have tt1 : decide (x.sense < 0) = true := by simpa using g
    have HF : Hid (u = false) := hide (by rw [<- HU.out]; exact lpB_not.2 (fun hp => by have hrw := hp.rows x (List.mem_of_getElem? HX.out); have h2 := hrw.2.1; omega))
    go_wp2_with fail
    go_ret
    exact ⟨by rw [HF.out]; rfl, B0.out.trans HLX.out⟩
   have tt3 : decide (x.sense < 0) = false := by simp; omega
   by_cases g : 2 < x.sense
   ·have tt1 : decide (2 < x.sense) = true := by simpa using g
    have HF : Hid (u = false) := hide (by rw [<- HU.out]; exact lpB_not.2 (fun hp => by have hrw := hp.rows x (List.mem_of_getElem? HX.out); have h2 := hrw.2.1; omega))
    go_wp2_with fail
    go_ret
    exact ⟨by rw [HF.out]; rfl, B0.out.trans HLX.out⟩
   have tt4 : decide (2 < x.sense) = false := by simp; omega
   obtain ⟨fc, fr, y1, y2, y3⟩ := HE.out.flags
   obtain ⟨ur, hur⟩ : ∃ ur, allFF [fc, [fr]] = ur := ⟨_, rfl⟩
   have HUR := hide hur
   have HXF : Hid (x.f = ur) := hide (by rw [y3, <- hur]; unfold allFF; simp)
   have Y1 := hide y1; have Y2 := hide y2
   have HYL : Hid (fc.length <= 1000) := hide (by have h1 := rats_flen HE.out.coef y1; have h2 := HE.out.cl; omega)
   clear y1 y2 y3 hur
   go_wp2_with fail
   ((with_reducible refine (pall_calls _ _ [fc, [fr]] (tab_two (Row.newAt (w := wx.alloc (Obj.cells #[Value.bool r.e.a, Value.slice r.e.A r.e.n r.e.c, Value.bool r.e.a', Value.slice r.e.A' r.e.n' r.e.c'] 36)) (t := 22) (cs := [.slice r.A r.n r.c, .slice (some ⟨wx.heap.size, 0, none⟩) 1 1]) (World.size_alloc _ _)) (Y1.out.later EFlag.later ((HB.out.alloc _).alloc _)) (rats_one ((Row.new wx 36 [.bool r.e.a, .slice r.e.A r.e.n r.e.c, .bool r.e.a', .slice r.e.A' r.e.n' r.e.c']).alloc _) (EFlag.later _ _ _ _ Y2.out ((HB.out.alloc _).alloc _)))) (by simp) (fun q hq => by have := HYL.out; simp at hq; rcases hq with rfl | rfl <;> simp <;> omega) ur HUR.out).mono ?_); rintro e w8 ⟨rfl, b8⟩; have HL8 : Hid (Later W0 w8) := hide (((HLX.out.alloc _).alloc _).trans b8); clear b8)
   cases ur with
   | false =>
     have HLX := HL8
     have HF : Hid (u = false) := hide (by rw [<- HU.out]; exact lpB_not.2 (fun hp => by have hrw := hp.rows x (List.mem_of_getElem? HX.out); have h2 := hrw.2.2; rw [HXF.out] at h2; cases h2))
     go_wp2_with fail
     go_ret
     exact ⟨by rw [HF.out]; rfl, B0.out.trans HLX.out⟩
   | true =>
     have HN : Hid (∀ r ∈ P.rows.take (j + 1), okRow n1 r) := hide fun q hq => by
      rw [List.take_add_one, HX.out] at hq
      rcases List.mem_append.1 hq with h | h
      ·exact hpre.out q h
      ·simp at h; rw [h]; exact ⟨by have := HRN.out; omega, by omega, HXF.out⟩
     clear f0 f1 f2 f3 f4 f5
     go_wp2_with fail
     exact ⟨⟨j+1, by omega, by go_num, HN, HL8.out⟩, by simp [intOf]; omega⟩
  ·have HROWS : Hid (∀ r ∈ P.rows, okRow n1 r) := hide fun r hr => hpre.out r (by rw [List.take_of_length_le (by have := L2.out; omega)]; exact hr)
   have hj1 : ¬ (j : Int) < n2 := by omega
   obtain ⟨wl, hwl⟩ : ∃ wl, wl = wr := ⟨_, rfl⟩
   subst hwl
   have HLL := HL
   clear hpre HL
   go_wp2_with fail
   go_loopw [88] (fun i wr => ∃ j : Nat, j <= n1 /\ i = .int .i64 (j : Int) /\ Hid (∀ i : Nat, i < j -> P.opn.getD i true = false -> P.lo.getD i 0 <= P.hi.getD i 0) /\ Later W0 wr) (fun i _ => (n1 - intOf i).toNat)
   case atStart => exact ⟨0, by omega, rfl, hide fun i hi => by omega, HLL.out⟩
   case round =>
    obtain ⟨j, hj, rfl, hpre, hL⟩ := hrel
    have HL := hide hL
    clear hL
    by_cases hjn : j < n1
    ·obtain ⟨o, ho⟩ : ∃ o, P.opn[j]? = some o := ⟨P.opn[j]'(by have := L5.out; omega), List.getElem?_eq_getElem _⟩
     obtain ⟨a4, ha4⟩ : ∃ o, P.hi[j]? = some o := ⟨P.hi[j]'(by have := L4.out; omega), List.getElem?_eq_getElem _⟩
     obtain ⟨a3, ha3⟩ : ∃ o, P.lo[j]? = some o := ⟨P.lo[j]'(by have := L3.out; omega), List.getElem?_eq_getElem _⟩
     obtain ⟨b5, off5, rfl, z5⟩ := (H.out.opn.later (B0.out.trans HL.out)).at_ ho
     obtain ⟨b4, off4, s4, P4, q4, e4, s4', P4', q4', e4', rfl, y1, y2, y3, y4, ea4⟩ := (H.out.hi.later ERaw.later (B0.out.trans HL.out)).at_ ha4
     obtain ⟨b3, off3, s3, P3, q3, e3, s3', P3', q3', e3', rfl, z1, z2, z3, z4, ea3⟩ := (H.out.lo.later ERaw.later (B0.out.trans HL.out)).at_ ha3
     have HOJ0 : Hid (P.opn.getD j true = o) := hide (by rw [List.getD_eq_getElem?_getD, ho]; rfl)
     have HH4 : Hid (P.hi.getD j 0 = a4) := hide (by rw [List.getD_eq_getElem?_getD, ha4]; rfl)
     have HH3 : Hid (P.lo.getD j 0 = a3) := hide (by rw [List.getD_eq_getElem?_getD, ha3]; rfl)
     have HA4 : Hid (RawR wr (.agg #[.bool s4, .slice P4 q4 e4, .bool s4', .slice P4' q4' e4']) a4 k) := hide ea4
     have HA3 : Hid (RawR wr (.agg #[.bool s3, .slice P3 q3 e3, .bool s3', .slice P3' q3' e3']) a3 k) := hide ea3
     have hj0 : (0 : Int) <= (j : Int) := by omega
     have hj1 : (j : Int) < n1 := by omega
     have hj3 : (j : Int) < n3 := by omega
     have hj4 : (j : Int) < n4 := by omega
     have hj5 : (j : Int) < n5 := by omega
     have hj2 : ((j : Int)).toNat = j := by omega
     obtain ⟨cz, hcz⟩ : ∃ cz, cmpQ a4 a3 = cz := ⟨_, rfl⟩
     obtain ⟨u9, t9⟩ : ∃ u9, decide (cz < 0) = u9 := ⟨_, rfl⟩
     have HCZ := hide hcz; have T9 := hide t9
     have HT1 : Hid (∀ w', Later wr w' -> w'.cell? ⟨w.heap.size, 4, none⟩ = some (.slice (some ⟨b5, off5, none⟩) n5 c5) /\ w'.cell? ⟨w.heap.size, 3, none⟩ = some (.slice (some ⟨b4, off4, none⟩) n4 c4) /\ w'.cell? ⟨w.heap.size, 2, none⟩ = some (.slice (some ⟨b3, off3, none⟩) n3 c3) /\ w'.cell? ⟨b5, off5 + j, none⟩ = some (.bool o) /\ w'.cell? ⟨b4, off4 + j * 4, none⟩ = some (.bool s4) /\ w'.cell? ⟨b4, off4 + j * 4 + 1, none⟩ = some (.slice P4 q4 e4) /\ w'.cell? ⟨b4, off4 + j * 4 + 2, none⟩ = some (.bool s4') /\ w'.cell? ⟨b4, off4 + j * 4 + 3, none⟩ = some (.slice P4' q4' e4') /\ w'.cell? ⟨b3, off3 + j * 4, none⟩ = some (.bool s3) /\ w'.cell? ⟨b3, off3 + j * 4 + 1, none⟩ = some (.slice P3 q3 e3) /\ w'.cell? ⟨b3, off3 + j * 4 + 2, none⟩ = some (.bool s3') /\ w'.cell? ⟨b3, off3 + j * 4 + 3, none⟩ = some (.slice P3' q3' e3')) := hide fun w' hb => by
      have h1 := R0.out.later (HL.out.trans hb)
      exact ⟨h1.cell rfl, h1.cell rfl, h1.cell rfl, Later.cell hb z5, Later.cell hb y1, Later.cell hb y2, Later.cell hb y3, Later.cell hb y4, Later.cell hb z1, Later.cell hb z2, Later.cell hb z3, Later.cell hb z4⟩
     clear ho ha4 ha3 hcz z5 y1 y2 y3 y4 z1 z2 z3 z4 ea4 ea3
     have hmx : Tryz.prog.follows .mixedOrders = true := by kernel_rfl
     go_upto_region 13 with fail
     cases o with
     | true =>
       have HNX : Hid (∀ i : Nat, i < j + 1 -> P.opn.getD i true = false -> P.lo.getD i 0 <= P.hi.getD i 0) := hide fun i hi ho => by
        by_cases hij : i < j
        ·exact hpre.out i hij ho
        ·have e : i = j := by omega
         subst e; rw [HOJ0.out] at ho; cases ho
       refine wp_region_N (fun w' => w'.cell? ⟨w.heap.size, 4, none⟩ = some (.slice (some ⟨b5, off5, none⟩) n5 c5) /\ w'.cell? ⟨w.heap.size, 3, none⟩ = some (.slice (some ⟨b4, off4, none⟩) n4 c4) /\ w'.cell? ⟨w.heap.size, 2, none⟩ = some (.slice (some ⟨b3, off3, none⟩) n3 c3) /\ w'.cell? ⟨b5, off5 + j, none⟩ = some (.bool true) /\ w'.cell? ⟨b4, off4 + j * 4, none⟩ = some (.bool s4) /\ w'.cell? ⟨b4, off4 + j * 4 + 1, none⟩ = some (.slice P4 q4 e4) /\ w'.cell? ⟨b4, off4 + j * 4 + 2, none⟩ = some (.bool s4') /\ w'.cell? ⟨b4, off4 + j * 4 + 3, none⟩ = some (.slice P4' q4' e4') /\ w'.cell? ⟨b3, off3 + j * 4, none⟩ = some (.bool s3) /\ w'.cell? ⟨b3, off3 + j * 4 + 1, none⟩ = some (.slice P3 q3 e3) /\ w'.cell? ⟨b3, off3 + j * 4 + 2, none⟩ = some (.bool s3') /\ w'.cell? ⟨b3, off3 + j * 4 + 3, none⟩ = some (.slice P3' q3' e3')) [] hmx (HT1.out _ lt_) (fun hHeld => ?_)
       refine tkB 91 0 ?_
       refine tkB 92 1 ?_
       refine tkB 93 2 ?_
       refine tkB 94 3 ?_
       refine tkB 95 4 ?_
       refine tkB 96 5 ?_
       refine tkB 97 6 ?_
       refine tkU 98 7 ?_
       try simp only [Act.put, s1_, s2_, s3_]
       refine tkU 99 8 ?_
       try simp only [Act.put, s1_, s2_, s3_]
       refine tkU 100 9 ?_
       try simp only [Act.put, s1_, s2_, s3_]
       refine tkU 101 10 ?_
       try simp only [Act.put, s1_, s2_, s3_]
       refine tkU 102 11 ?_
       try simp only [Act.put, s1_, s2_, s3_]
       refine tkU 103 12 ?_
       try simp only [Act.put, s1_, s2_, s3_]
       refine tkU 104 13 ?_
       try simp only [Act.put, s1_, s2_, s3_]
       refine tkU 105 14 ?_
       try simp only [Act.put, s1_, s2_, s3_]
       refine tkU 106 15 ?_
       try simp only [Act.put, s1_, s2_, s3_]
       refine tkU 107 16 ?_
       try simp only [Act.put, s1_, s2_, s3_]
       refine tkU 108 17 ?_
       try simp only [Act.put, s1_, s2_, s3_]
       refine tkU 109 18 ?_
       try simp only [Act.put, s1_, s2_, s3_]
       refine tkB 110 19 ?_
       refine wpAnyN_done (by kernel_rfl) ?_ _
       clear hHeld
       have HLX := hide (show Later W0 wr.drew from HL.out.drew)
       go_wp2_with fail
       exact ⟨⟨j+1, by omega, by go_num, HNX.out, HLX.out⟩, by simp [intOf]; omega⟩
     | false =>
       have HOJ := HOJ0
       refine wp_region_N (fun w' => w'.cell? ⟨w.heap.size, 4, none⟩ = some (.slice (some ⟨b5, off5, none⟩) n5 c5) /\ w'.cell? ⟨w.heap.size, 3, none⟩ = some (.slice (some ⟨b4, off4, none⟩) n4 c4) /\ w'.cell? ⟨w.heap.size, 2, none⟩ = some (.slice (some ⟨b3, off3, none⟩) n3 c3) /\ w'.cell? ⟨b5, off5 + j, none⟩ = some (.bool false) /\ w'.cell? ⟨b4, off4 + j * 4, none⟩ = some (.bool s4) /\ w'.cell? ⟨b4, off4 + j * 4 + 1, none⟩ = some (.slice P4 q4 e4) /\ w'.cell? ⟨b4, off4 + j * 4 + 2, none⟩ = some (.bool s4') /\ w'.cell? ⟨b4, off4 + j * 4 + 3, none⟩ = some (.slice P4' q4' e4') /\ w'.cell? ⟨b3, off3 + j * 4, none⟩ = some (.bool s3) /\ w'.cell? ⟨b3, off3 + j * 4 + 1, none⟩ = some (.slice P3 q3 e3) /\ w'.cell? ⟨b3, off3 + j * 4 + 2, none⟩ = some (.bool s3') /\ w'.cell? ⟨b3, off3 + j * 4 + 3, none⟩ = some (.slice P3' q3' e3')) [] hmx (HT1.out _ lt_) (fun hHeld => ?_)
       refine tkB 91 0 ?_
       refine tkB 92 1 ?_
       refine tkB 93 2 ?_
       refine tkB 94 3 ?_
       refine tkB 95 4 ?_
       refine tkB 96 5 ?_
       refine tkB 97 6 ?_
       refine tkB 98 7 ?_
       refine tkB 99 8 ?_
       refine tkB 100 9 ?_
       refine tkB 101 10 ?_
       refine tkB 102 11 ?_
       refine tkB 103 12 ?_
       refine tkB 104 13 ?_
       refine tkB 105 14 ?_
       refine tkB 106 15 ?_
       refine tkB 107 16 ?_
       refine wpAnyN_ready (rs := [17]) (by kernel_rfl) (by simp) ?_
       refine AllReadyN.held rfl (by rfl) (fun K hK => ?_) AllReadyN.nil
       go_simp
       refine (rcmp_calls _ _ _ a4 a3 k k (RawR.later HA4.out lt_) (RawR.later HA3.out lt_) (by omega)).mono ?_
       rintro e w2 ⟨rfl, b2⟩
       rw [HCZ.out]
       have l2 : Later wr w2 := Later.trans lt_ b2
       clear b2
       refine hK.out _ _ ?_ (fun hHeld => ?_)
       ·exact HT1.out _ lt_
       clear hK K
       try simp only [Act.put, s1_, s2_, s3_]
       refine tkB 109 18 ?_
       refine tkB 110 19 ?_
       refine wpAnyN_done (by kernel_rfl) ?_ _
       clear hHeld
       have HLX := hide (HL.out.trans l2)
       clear l2
       cases u9 with
       | true =>
         have HF : Hid (u = false) := hide (by
          rw [<- HU.out]; exact lpB_not.2 (fun hp => by
           have h1 := hp.ends j (by have := L1.out; omega) HOJ.out
           have h2 := cmpq_lt HCZ.out (by simpa using T9.out)
           rw [HH4.out, HH3.out] at h1
           grind))
         clear t9
         go_wp2_with fail
         go_ret
         exact ⟨by rw [HF.out]; rfl, B0.out.trans HLX.out⟩
       | false =>
         have HNX : Hid (∀ i : Nat, i < j + 1 -> P.opn.getD i true = false -> P.lo.getD i 0 <= P.hi.getD i 0) := hide fun i hi ho => by
          by_cases hij : i < j
          ·exact hpre.out i hij ho
          ·have e : i = j := by omega
           subst e
           rw [HH4.out, HH3.out]
           exact cmpq_ge HCZ.out (by simpa using T9.out)
         clear t9
         go_wp2_with fail
         exact ⟨⟨j+1, by omega, by go_num, HNX.out, HLX.out⟩, by simp [intOf]; omega⟩
    ·have hj1 : ¬ (j : Int) < n1 := by omega
     have HF : Hid (u = true) := hide (by
      rw [<- HU.out]
      refine lpB_iff.2 ⟨?_, ?_, ?_, ?_, ?_, ?_, HPF.out, fun r hr => ?_, fun i hi ho => ?_⟩
      ·have := L1.out; omega
      ·have := L1.out; omega
      ·have := L1.out; have := L3.out; omega
      ·have := L1.out; have := L4.out; omega
      ·have := L1.out; have := L5.out; omega
      ·have := L2.out; omega
      ·have h1 := HROWS.out r hr; unfold okRow at h1; rw [L1.out] at h1; exact h1
      ·exact hpre.out i (by have := L1.out; omega) ho)
     go_wp2_with fail
     go_ret
     exact ⟨by rw [HF.out]; rfl, B0.out.trans HL.out⟩
end Go.Proofs.YtfokplidiboabaaGreat
