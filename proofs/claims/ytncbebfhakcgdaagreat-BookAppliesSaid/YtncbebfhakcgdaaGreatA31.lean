/- Books: the reference: something committed. -/
import Derived.Test.YtncbebfhakcgdaaGreatA30
import Derived.Test.YtncbebfhakcgdaaGreatA29
import Derived.Test.YtncbebfhakcgdaaGreatA19
import Derived.OpenShut
set_option linter.unusedVariables false
set_option linter.unusedSimpArgs false
set_option maxRecDepth 100000
namespace Go.Proofs.YtncbebfhakcgdaaGreat
open Go.RowKit Go.Shelf
attribute [local go_sem ↓] Go.wp_at_zero Go.wp_at_succ
theorem mCells_lt (x : PMk) : (mCells x).length = 3 := rfl
theorem wpList_append_m {w : World} {ops : Array Oper} {rest : List Oper} {o : Oper} {a : Act} {Q : Exit -> Act -> World -> Prop} (hgd : o.guard = none) (s x : Operand) (ho : o.op = .call { callee := .builtin .append, args := #[s, x], argTypes := #[25, 25] })
 {lo : Nat} {v : Value} {l : List PMk} {g : Nat} (z : PMk) (hs : a.eval s = v) (hown : w.ownsRow lo 43 3 v l.length (l.flatMap mCells)) (hx : a.eval x = .slice (some ⟨g, 0, none⟩) 1 1) (hrow : Row w g 43 (mCells z)) (hlen : l.length <= 3000000) (hbase : lo <= w.heap.size)
 (h : ∀ A n c w', w'.ownsRow lo 43 3 (.slice A n c) (l ++ [z]).length ((l ++ [z]).flatMap mCells) -> w.grownBy w' v.ownBlock -> wpList Tryz.prog ops Q rest (a.put o.dst (.slice A n c)) w') : wpList Tryz.prog ops Q (o :: rest) a w := by
 refine wpList_append_src hgd s x _ ho lo 43 _ 3 24 Tryz.underlying25 info_m3 rfl (by omega) (by omega) v l.length _ hs hown _ 1 (mCells z) hx (Src.row hrow rfl (by simp [mCells, Value.oneCell'])) (by omega) hbase ?_
 intro v' w' k1 k2 k3
 obtain ⟨A, c, rfl⟩ := own_form k1
 refine h A _ c w' ?_ k2
 rw [List.length_append, List.flatMap_append, List.flatMap_cons, List.flatMap_nil, List.append_nil]; exact k1
theorem filter_split {α : Type} {P Q : α -> Bool} : ∀ {l : List α}, l.Pairwise (fun a b => ¬ (Q a = true /\ P b = true)) -> (∀ x ∈ l, ¬ (P x = true /\ Q x = true)) -> l.filter (fun x => P x || Q x) = l.filter P ++ l.filter Q
 | [], _, _ => rfl
 | x :: l, h, hd => by
   obtain ⟨h1, h2⟩ := List.pairwise_cons.1 h
   have ih := filter_split h2 fun y hy => hd y (List.mem_cons_of_mem _ hy)
   rw [List.filter_cons, List.filter_cons, List.filter_cons]
   cases hp : P x with
   | true =>
     have hq : Q x = false := by
      cases e : Q x
      ·rfl
      ·exact (hd x (List.mem_cons_self ..) ⟨hp, e⟩).elim
     simp [hq, ih]
   | false =>
     cases hq : Q x with
     | false => simp [ih]
     | true =>
       have hn : l.filter P = [] := List.filter_eq_nil_iff.2 fun y hy => fun e => h1 y hy ⟨hq, e⟩
       rw [hn] at ih
       simp [hn, ih]
def mkT (l : List PMk) (p : Int) (qs : List Int) (T : Nat) : List PMk := if (T : Int) <= p then l.filter (fun x : PMk => decide (x.period < (T : Int))) else l.filter (fun x : PMk => decide (x.period < p)) ++ (mksFrom p qs 0 ++ l.filter (fun x : PMk => decide (p < x.period) && decide (x.period < (T : Int))))
theorem mkT_zero {l : List PMk} {p : Int} {qs : List Int} (hp : 0 <= p) (h : ∀ x ∈ l, 0 <= x.period) : mkT l p qs 0 = [] := by
 unfold mkT
 rw [if_pos (by simpa using hp)]
 exact List.filter_eq_nil_iff.2 fun x hx => by have := h x hx; simp; omega
theorem mkT_succ {l : List PMk} {p : Int} {qs : List Int} (hp : ∀ x ∈ l, x.period ≠ p) (hs : l.Pairwise fun a b => a.period <= b.period) (T : Nat) :
 mkT l p qs (T+1) = (mkT l p qs T ++ l.filter (fun x : PMk => decide (x.period = (T : Int)))) ++ (if (T : Int) = p then mksFrom p qs 0 else []) := by
 have hsp : ∀ q : PMk -> Bool, (l.filter fun x : PMk => (q x && decide (x.period < (T : Int))) || (q x && decide (x.period = (T : Int)))) = l.filter (fun x : PMk => q x && decide (x.period < (T : Int))) ++ l.filter (fun x : PMk => q x && decide (x.period = (T : Int))) := fun q =>
  filter_split (hs.imp fun {a b} hab hh => by simp at hh; omega) (fun x _ hh => by simp at hh; omega)
 unfold mkT
 by_cases h1 : ((T + 1 : Nat) : Int) <= p
 ·rw [if_pos h1, if_pos (by omega), if_neg (by omega), List.append_nil]
  have h2 := hsp fun _ => true
  simp only [Bool.true_and] at h2
  rw [<- h2]
  refine List.filter_congr fun x _ => ?_
  rw [Bool.eq_iff_iff]; simp; omega
 ·rw [if_neg h1]
  by_cases h2 : (T : Int) = p
  ·rw [if_pos (by omega), if_pos h2]
   have e1 : l.filter (fun x : PMk => decide (x.period = (T : Int))) = [] := List.filter_eq_nil_iff.2 fun x hx => by have := hp x hx; simp; omega
   have e2 : l.filter (fun x : PMk => decide (p < x.period) && decide (x.period < ((T + 1 : Nat) : Int))) = [] := List.filter_eq_nil_iff.2 fun x hx => by simp; omega
   rw [e1, e2, h2]; simp
  ·rw [if_neg (by omega), if_neg h2, List.append_nil, List.append_assoc, List.append_assoc]
   have h3 := hsp fun x => decide (p < x.period)
   have e1 : l.filter (fun x : PMk => decide (p < x.period) && decide (x.period = (T : Int))) = l.filter (fun x : PMk => decide (x.period = (T : Int))) := List.filter_congr fun x _ => by rw [Bool.eq_iff_iff]; simp; omega
   rw [e1] at h3
   rw [<- h3]
   congr 2
   refine List.filter_congr fun x _ => ?_
   rw [Bool.eq_iff_iff]; simp; omega
theorem mkT_end {l : List PMk} {p : Int} {qs : List Int} (hp : p <= 39) (h : ∀ x ∈ l, x.period <= 39) : mkT l p qs 40 = putM l p qs := by
 unfold mkT putM
 rw [if_neg (by omega)]
 congr 2
 exact List.filter_congr fun x hx => by have := h x hx; rw [Bool.eq_iff_iff]; simp; omega
theorem mkT_le (l : List PMk) (p : Int) (qs : List Int) (T : Nat) : (mkT l p qs T).length <= 2 * l.length + qs.length := by
 unfold mkT
 split
 ·have := List.length_filter_le (fun x : PMk => decide (x.period < (T : Int))) l; omega
 ·have h1 := List.length_filter_le (fun x : PMk => decide (x.period < p)) l
  have h2 := List.length_filter_le (fun x : PMk => decide (p < x.period) && decide (x.period < (T : Int))) l
  rw [List.length_append, List.length_append, mksFrom_len]; omega
theorem mksFrom_sn (p q : Int) : ∀ (qs : List Int) (i : Nat), mksFrom p (qs ++ [q]) i = mksFrom p qs i ++ [⟨(i + qs.length : Nat), p, q⟩]
 | [], i => rfl
 | x :: qs, i => by
   show (⟨i, p, x⟩ : PMk) :: mksFrom p (qs ++ [q]) (i+1) = _
   rw [mksFrom_sn p q qs (i+1)]
   have e : i + 1 + qs.length = i + (x :: qs).length := by rw [List.length_cons]; omega
   rw [e]; rfl
theorem MayP.pPw {D : PBook} (h : MayP D) : D.mks.Pairwise fun a b => a.period <= b.period :=
 List.Pairwise.imp_of_mem (fun {a b} ha hb hab => by
  have e1 := h.mks a ha; have e2 := h.mks b hb; have := h.head.n3
  unfold PMk.okP at e1 e2; unfold PMk.key at hab; omega) h.mPw
theorem mk_book {w : World} {P : Nat -> Prop} {n s : Nat} {A1 A2 A3 A4 A : Option Addr} {n1 n2 n3 n4 c1 c2 c3 c4 na ca : Nat} {D : PBook} {l : List PMk} (h : On w (fun b => P b /\ b < n) (fun W => BookIn W (.slice A1 n1 c1) (.slice A2 n2 c2) (.slice A3 n3 c3) (.slice A4 n4 c4) D)) (ho : w.ownsRow s 43 3 (.slice A na ca) l.length (l.flatMap mCells)) (hl : l.length <= 1000) (hf : ∀ x ∈ l, x.fit) :
 On w (fun b => (P b /\ b < n) ∨ s <= b) (fun W => BookIn W (.slice A1 n1 c1) (.slice A2 n2 c2) (.slice A3 n3 c3) (.slice A na ca) { D with mks := l }) :=
 ((h.mono fun b hb _ => Or.inl hb).and ((On.sq mCells_lt ho).mono fun b hb _ => Or.inr hb)).map fun W k => { k.1 with mks := k.2, ml := hl, mfit := hf }
theorem sumI_one (a : List Int) (x : Int) : sumI (a ++ [x]) = sumI a + x := by rw [sumI_append]; simp [sumI]
set_option maxHeartbeats 2000000 in
theorem rcommit_calls (w : World) (A1 A2 A3 A4 : Option Addr) (n1 n2 n3 n4 c1 c2 c3 c4 : Nat) (D : PBook) (P : Nat -> Prop) (h : On w P (fun W => BookIn W (.slice A1 n1 c1) (.slice A2 n2 c2) (.slice A3 n3 c3) (.slice A4 n4 c4) D)) (hm : MayP D) (Aq : Option Addr) (nq cq : Nat) (p : Int) (qs : List Int) (hQ : Sq 1 iCells w (.slice Aq nq cq) qs) :
 Calls Tryz.prog 42 #[.agg #[.slice A1 n1 c1, .int .i64 D.hor, .int .i64 D.now, .slice A2 n2 c2, .slice A3 n3 c3, .slice A4 n4 c4], .int .i64 p, .slice Aq nq cq] w (RefP P w (comV D p qs)) := by
 obtain ⟨hn1, hn2, hn3, hn4⟩ := bk_lens h.now
 have hnq : nq = qs.length := by
  obtain ⟨_, _, _, e, e2, -⟩ := hQ.form
  injection e with _ e3 _; omega
 have H := hide h.now; have HON := hide (h.mono fun b hb hl => (⟨hb, hl⟩ : P b /\ b < w.heap.size)); have HM := hide hm; have HQ := hide hQ
 have HN1 := hide hn1; have HN4 := hide hn4; have HNQ := hide hnq
 have hn9 : n1 <= 3 := by have := hm.head.n3; omega
 have hn49 : n4 <= 120 := by have := hm.ml; omega
 clear h hm hn1 hn2 hn3 hn4 hQ hnq
 obtain ⟨W0, hW0⟩ : ∃ W0, W0 = ((w.alloc (Obj.cells #[Value.slice A1 n1 c1, Value.int .i64 D.hor, Value.int .i64 D.now, Value.slice A2 n2 c2, Value.slice A3 n3 c3, Value.slice A4 n4 c4] 27)).alloc (Obj.cells #[Value.slice none 0 0, Value.int .i64 0, Value.int .i64 0, Value.slice none 0 0, Value.slice none 0 0, Value.slice none 0 0] 27)) := ⟨_, rfl⟩
 obtain ⟨hb0, r0, r1, hsz0⟩ := boxes2 w [.slice A1 n1 c1, .int .i64 D.hor, .int .i64 D.now, .slice A2 n2 c2, .slice A3 n3 c3, .slice A4 n4 c4] [.slice none 0 0, .int .i64 0, .int .i64 0, .slice none 0 0, .slice none 0 0, .slice none 0 0] 27 27 hW0
 have B0 := hide hb0; have HW0 := hide hW0; have HSZ0 := hide hsz0
 have R0 := hide r0; have R1 := hide r1
 clear hb0 hW0 hsz0 r0 r1
 go_enter Tryz.func42, Tryz.ntmps42
 go_upto_region 1 with fail
 rw [<- HW0.out]
 have rb := R0.out.later (Later.refl W0)
 have x0 := rb.cell (i := 0) rfl; have x1 := rb.cell (i := 1) rfl; have x2 := rb.cell (i := 2) rfl; have x3 := rb.cell (i := 3) rfl; have x4 := rb.cell (i := 4) rfl; have x5 := rb.cell (i := 5) rfl
 clear rb
 by_cases g1 : nq = n1
 rotate_left
 ·have t1 : ((nq : Int) != (n1 : Int)) = true := by simp; omega
  have HV : Hid (comV D p qs = .error 1) := hide (by unfold comV; rw [if_pos (by have := HNQ.out; have := HN1.out; omega)])
  clear g1
  have rz := R1.out.later (Later.refl W0)
  have q0 := rz.cell (i := 0) rfl; have qz0 := rz.frozen 0; have q1 := rz.cell (i := 1) rfl; have qz1 := rz.frozen 1; have q2 := rz.cell (i := 2) rfl; have qz2 := rz.frozen 2; have q3 := rz.cell (i := 3) rfl; have qz3 := rz.frozen 3; have q4 := rz.cell (i := 4) rfl; have qz4 := rz.frozen 4; have q5 := rz.cell (i := 5) rfl; have qz5 := rz.frozen 5
  clear rz
  go_wp2_with fail
  refine bodyPost_ret (results_bkt rfl rfl rfl ((R1.out.later (Later.refl W0)).put6 _ _ _ _ _ _)) rfl ⟨(B0.out.trans (Later.refl W0)).only (only6 _ _ _ _ _ _ _) (by omega), by rw [HV.out]; rfl⟩
 have t1 : ((nq : Int) != (n1 : Int)) = false := by simp; omega
 have HNQ3 : Hid (nq <= 3) := hide (by omega)
 have HLEN : Hid (¬ qs.length ≠ D.items.length) := hide (by have := HNQ.out; have := HN1.out; omega)
 clear g1
 go_wp2_with fail
 clear t1 x0 x1 x2 x3 x4 x5
 go_loopw [8, 9] (fun sv iv wr => ∃ j : Nat, sv = .int .i64 (sumI (qs.take j)) /\ iv = .int .i64 (j : Int) /\ Hid (j <= nq) /\ Hid (∀ (i : Nat) x, i < j -> qs[i]? = some x -> 0 <= x /\ x <= 100) /\ Hid (0 <= sumI (qs.take j) /\ sumI (qs.take j) <= 100 * j) /\ Hid (Later W0 wr)) (fun _ iv _ => (nq - intOf iv).toNat)
 case atStart => exact ⟨0, rfl, rfl, hide (Nat.zero_le _), hide (fun i x hi => by omega), hide (by simp [sumI]), hide (Later.refl _)⟩
 case round =>
  obtain ⟨j, rfl, rfl, HJ, HOK, HSB, HL⟩ := hrel
  obtain ⟨S, hS⟩ : ∃ S, S = sumI (qs.take j) := ⟨_, rfl⟩
  rw [<- hS]
  rw [<- hS] at HSB
  have HS := hide hS
  clear hS
  by_cases hjn : j < nq
  ·obtain ⟨x, hx⟩ : ∃ x, qs[j]? = some x := ⟨qs[j]'(by have := HNQ.out; omega), List.getElem?_eq_getElem _⟩
   obtain ⟨b1, off1, rfl, y0⟩ := (HQ.out.later (B0.out.trans HL.out)).at1 hx
   have HX := hide hx
   have hj0 : (0 : Int) <= (j : Int) := by omega
   have hj1 : (j : Int) < nq := by omega
   clear hx
   by_cases g2 : x < 0
   ·have t2 : decide (x < 0) = true := by simpa using g2
    have HV : Hid (comV D p qs = .error 1) := hide (by
     unfold comV; rw [if_neg HLEN.out, if_pos (show badQ qs = true from List.any_eq_true.2 ⟨x, List.mem_of_getElem? HX.out, by simp; omega⟩)])
    clear g2
    have rz := R1.out.later HL.out
    have q0 := rz.cell (i := 0) rfl; have qz0 := rz.frozen 0; have q1 := rz.cell (i := 1) rfl; have qz1 := rz.frozen 1; have q2 := rz.cell (i := 2) rfl; have qz2 := rz.frozen 2; have q3 := rz.cell (i := 3) rfl; have qz3 := rz.frozen 3; have q4 := rz.cell (i := 4) rfl; have qz4 := rz.frozen 4; have q5 := rz.cell (i := 5) rfl; have qz5 := rz.frozen 5
    clear rz
    go_wp2_with fail
    refine bodyPost_ret (results_bkt rfl rfl rfl ((R1.out.later HL.out).put6 _ _ _ _ _ _)) rfl ⟨(B0.out.trans HL.out).only (only6 _ _ _ _ _ _ _) (by omega), by rw [HV.out]; rfl⟩
   have t2 : decide (x < 0) = false := by simpa using g2
   by_cases g3 : 100 < x
   ·have t3 : decide (100 < x) = true := by simpa using g3
    have HV : Hid (comV D p qs = .error 1) := hide (by
     unfold comV; rw [if_neg HLEN.out, if_pos (show badQ qs = true from List.any_eq_true.2 ⟨x, List.mem_of_getElem? HX.out, by simp; omega⟩)])
    clear g2 g3
    have rz := R1.out.later HL.out
    have q0 := rz.cell (i := 0) rfl; have qz0 := rz.frozen 0; have q1 := rz.cell (i := 1) rfl; have qz1 := rz.frozen 1; have q2 := rz.cell (i := 2) rfl; have qz2 := rz.frozen 2; have q3 := rz.cell (i := 3) rfl; have qz3 := rz.frozen 3; have q4 := rz.cell (i := 4) rfl; have qz4 := rz.frozen 4; have q5 := rz.cell (i := 5) rfl; have qz5 := rz.frozen 5
    clear rz
    go_wp2_with fail
    refine bodyPost_ret (results_bkt rfl rfl rfl ((R1.out.later HL.out).put6 _ _ _ _ _ _)) rfl ⟨(B0.out.trans HL.out).only (only6 _ _ _ _ _ _ _) (by omega), by rw [HV.out]; rfl⟩
   have t3 : decide (100 < x) = false := by simpa using g3
   have hjq := HNQ3.out
   have hsb := HSB.out
   have hw : IntKind.i64.wrap (S + x) = S + x := IntWalk.i64_in _ (by omega)
   have HS2 : Hid (S + x = sumI (qs.take (j+1))) := hide (by rw [List.take_add_one, HX.out, HS.out]; exact (sumI_one _ _).symm)
   have HSB2 : Hid (0 <= S + x /\ S + x <= 100 * ((j + 1 : Nat) : Int)) := hide (by omega)
   have HOK2 : Hid (∀ (i : Nat) y, i < j + 1 -> qs[i]? = some y -> 0 <= y /\ y <= 100) := hide (fun i y hi hy => by
    by_cases e2 : i < j
    ·exact HOK.out i y e2 hy
    ·obtain rfl : i = j := by omega
     rw [HX.out] at hy; injection hy with hy; omega)
   clear g2 g3 hsb
   go_wp2_with fail
   exact ⟨⟨j+1, by rw [HS2.out], by go_num, hide (by omega), HOK2, (by rw [<- HS2.out]; exact HSB2), HL⟩, by simp [intOf]; omega⟩
  ·have hj1 : ¬ (j : Int) < nq := by omega
   have HSE : Hid (S = sumI qs) := hide (by rw [HS.out, List.take_of_length_le (by have := HNQ.out; omega)])
   have HBQ : Hid (badQ qs = false) := hide (by
    unfold badQ
    rw [List.any_eq_false]
    intro x hx
    obtain ⟨i, hi⟩ := List.getElem?_of_mem hx
    have := HOK.out i x (by have := (List.getElem?_eq_some_iff.1 hi).1; have := HNQ.out; have := HJ.out; omega) hi
    simp; omega)
   have HQB : Hid (∀ q ∈ qs, 0 <= q /\ q <= 100) := hide (fun q hq => by
    obtain ⟨i, hi⟩ := List.getElem?_of_mem hq
    exact HOK.out i q (by have := (List.getElem?_eq_some_iff.1 hi).1; have := HNQ.out; have := HJ.out; omega) hi)
   have rb := R0.out.later HL.out
   have x0 := rb.cell (i := 0) rfl; have x1 := rb.cell (i := 1) rfl; have x2 := rb.cell (i := 2) rfl; have x3 := rb.cell (i := 3) rfl; have x4 := rb.cell (i := 4) rfl; have x5 := rb.cell (i := 5) rfl
   clear rb
   by_cases g3 : perE D p = 0
   rotate_left
   ·have t3 : (perE D p != 0) = true := by simpa using g3
    have HV : Hid (comV D p qs = .error (perE D p)) := hide (by unfold comV; rw [if_neg HLEN.out, if_neg (by rw [HBQ.out]; simp), if_pos g3])
    clear g3
    have rz := R1.out.later HL.out
    have q0 := rz.cell (i := 0) rfl; have qz0 := rz.frozen 0; have q1 := rz.cell (i := 1) rfl; have qz1 := rz.frozen 1; have q2 := rz.cell (i := 2) rfl; have qz2 := rz.frozen 2; have q3 := rz.cell (i := 3) rfl; have qz3 := rz.frozen 3; have q4 := rz.cell (i := 4) rfl; have qz4 := rz.frozen 4; have q5 := rz.cell (i := 5) rfl; have qz5 := rz.frozen 5
    clear rz
    go_wp2_with (go_at_call 85; (refine (rperiod_calls _ A1 A2 A3 A4 n1 n2 n3 n4 c1 c2 c3 c4 D (H.out.later (B0.out.trans HL.out)) p).mono ?_); rintro e w1 ⟨rfl, b1⟩; replace q0 := Later.cell b1 q0; replace qz0 := (R1.out.later (HL.out.trans b1)).frozen 0; replace q1 := Later.cell b1 q1; replace qz1 := (R1.out.later (HL.out.trans b1)).frozen 1; replace q2 := Later.cell b1 q2; replace qz2 := (R1.out.later (HL.out.trans b1)).frozen 2; replace q3 := Later.cell b1 q3; replace qz3 := (R1.out.later (HL.out.trans b1)).frozen 3; replace q4 := Later.cell b1 q4; replace qz4 := (R1.out.later (HL.out.trans b1)).frozen 4; replace q5 := Later.cell b1 q5; replace qz5 := (R1.out.later (HL.out.trans b1)).frozen 5)
    refine bodyPost_ret (results_bkt rfl rfl rfl ((R1.out.later (HL.out.trans b1)).put6 _ _ _ _ _ _)) rfl ⟨(B0.out.trans (HL.out.trans b1)).only (only6 _ _ _ _ _ _ _) (by omega), by rw [HV.out]; rfl⟩
   have t3 : (perE D p != 0) = false := by simpa using g3
   obtain ⟨p0, p39, -, hpn⟩ := perE_ok g3
   obtain ⟨m, rfl⟩ : ∃ m : Nat, p = m := ⟨p.toNat, by omega⟩
   have HPN := hide hpn
   have HP39 : Hid (m <= 39) := hide (by omega)
   have HPE := hide g3
   clear g3 hpn p0 p39
   go_upto_region 11 with (go_at_call 85; (refine (rperiod_calls _ A1 A2 A3 A4 n1 n2 n3 n4 c1 c2 c3 c4 D (H.out.later (B0.out.trans HL.out)) m).mono ?_); rintro e w1 ⟨rfl, b1⟩; have HL1 := hide (HL.out.trans b1))
   clear x0 x1 x2 x3 x4 x5
   have rb := R0.out.later HL1.out
   have x0 := rb.cell (i := 0) rfl; have x1 := rb.cell (i := 1) rfl; have x2 := rb.cell (i := 2) rfl; have x3 := rb.cell (i := 3) rfl; have x4 := rb.cell (i := 4) rfl; have x5 := rb.cell (i := 5) rfl
   clear rb
   by_cases g4 : capV D m < S
   ·have t4 : decide (capV D m < S) = true := by simpa using g4
    have HV : Hid (comV D m qs = .error 10) := hide (by unfold comV; rw [if_neg HLEN.out, if_neg (by rw [HBQ.out]; simp), if_neg (by rw [HPE.out]; simp), if_pos (by rw [<- HSE.out]; exact g4)])
    clear g4 b1
    have rz := R1.out.later HL1.out
    have q0 := rz.cell (i := 0) rfl; have qz0 := rz.frozen 0; have q1 := rz.cell (i := 1) rfl; have qz1 := rz.frozen 1; have q2 := rz.cell (i := 2) rfl; have qz2 := rz.frozen 2; have q3 := rz.cell (i := 3) rfl; have qz3 := rz.frozen 3; have q4 := rz.cell (i := 4) rfl; have qz4 := rz.frozen 4; have q5 := rz.cell (i := 5) rfl; have qz5 := rz.frozen 5
    clear rz
    go_wp2_with (go_at_call 26; (refine (rcap_calls _ A1 A2 A3 A4 n1 n2 n3 n4 c1 c2 c3 c4 D (H.out.later (B0.out.trans HL1.out)) m).mono ?_); rintro e w2 ⟨rfl, b2⟩; replace q0 := Later.cell b2 q0; replace qz0 := (R1.out.later (HL1.out.trans b2)).frozen 0; replace q1 := Later.cell b2 q1; replace qz1 := (R1.out.later (HL1.out.trans b2)).frozen 1; replace q2 := Later.cell b2 q2; replace qz2 := (R1.out.later (HL1.out.trans b2)).frozen 2; replace q3 := Later.cell b2 q3; replace qz3 := (R1.out.later (HL1.out.trans b2)).frozen 3; replace q4 := Later.cell b2 q4; replace qz4 := (R1.out.later (HL1.out.trans b2)).frozen 4; replace q5 := Later.cell b2 q5; replace qz5 := (R1.out.later (HL1.out.trans b2)).frozen 5)
    refine bodyPost_ret (results_bkt rfl rfl rfl ((R1.out.later (HL1.out.trans b2)).put6 _ _ _ _ _ _)) rfl ⟨(B0.out.trans (HL1.out.trans b2)).only (only6 _ _ _ _ _ _ _) (by omega), by rw [HV.out]; rfl⟩
   have t4 : decide (capV D m < S) = false := by simpa using g4
   have HV : Hid (comV D m qs = .ok { D with mks := putM D.mks m qs }) := hide (by unfold comV; rw [if_neg HLEN.out, if_neg (by rw [HBQ.out]; simp), if_neg (by rw [HPE.out]; simp), if_neg (by rw [<- HSE.out]; exact g4)])
   clear g4 b1
   go_wp2_with (go_at_call 26; (refine (rcap_calls _ A1 A2 A3 A4 n1 n2 n3 n4 c1 c2 c3 c4 D (H.out.later (B0.out.trans HL1.out)) m).mono ?_); rintro e w2 ⟨rfl, b2⟩; have HL2 := hide (HL1.out.trans b2))
   clear b2 t3 t4 x0 x1 x2 x3 x4 x5
   go_loopw [11, 12] (fun av tv wr => ∃ (T : Nat) (Aa : Option Addr) (na ca : Nat), av = .slice Aa na ca /\ tv = .int .i64 (T : Int) /\ Hid (T <= 40) /\ Hid (wr.ownsRow W0.heap.size 43 3 (.slice Aa na ca) (mkT D.mks m qs T).length ((mkT D.mks m qs T).flatMap mCells)) /\ Hid (Later W0 wr)) (fun _ tv _ => (40 - intOf tv).toNat)
   case atStart => exact ⟨0, none, 0, 0, rfl, rfl, hide (by omega), hide (by rw [mkT_zero (by omega) (fun x hx => by have := HM.out.mks x hx; unfold PMk.okP at this; omega)]; exact World.ownsRow_nil _ _ _ _), HL2⟩
   case round =>
    obtain ⟨T, Aa, na, ca, rfl, rfl, HT40, HOWN, HL⟩ := hrel
    by_cases hT : T < 40
    ·have t5 : decide ((T : Int) < 40) = true := by simp; omega
     have HT40 := hide hT
     clear hT
     go_wp2_with fail
     go_loopw [11, 13] (fun av iv wr => ∃ (j : Nat) (Aa : Option Addr) (na ca : Nat), av = .slice Aa na ca /\ iv = .int .i64 (j : Int) /\ Hid (j <= n4) /\ Hid (wr.ownsRow W0.heap.size 43 3 (.slice Aa na ca) (mkT D.mks m qs T ++ (D.mks.take j).filter fun x : PMk => decide (x.period = (T : Int))).length ((mkT D.mks m qs T ++ (D.mks.take j).filter fun x : PMk => decide (x.period = (T : Int))).flatMap mCells)) /\ Hid (Later W0 wr)) (fun _ iv _ => (n4 - intOf iv).toNat)
     case atStart => exact ⟨0, _, _, _, rfl, rfl, hide (Nat.zero_le _), hide (by rw [List.take_zero, List.filter_nil, List.append_nil]; exact HOWN.out), HL⟩
     case round =>
      obtain ⟨j, Aa, na, ca, rfl, rfl, HJ, HOWN, HL⟩ := hrel
      have x5 := (R0.out.later HL.out).cell (i := 5) rfl
      have HLE : Hid ((mkT D.mks m qs T ++ (D.mks.take j).filter fun x : PMk => decide (x.period = (T : Int))).length <= 2000) := hide (by
       have h1 := mkT_le D.mks m qs T
       have h2 := List.length_filter_le (fun x : PMk => decide (x.period = (T : Int))) (D.mks.take j)
       have h3 := HM.out.ml
       rw [List.length_take] at h2
       rw [List.length_append]; have := HNQ.out; have := HNQ3.out; omega)
      by_cases hjn : j < n4
      ·obtain ⟨x, hx⟩ : ∃ x, D.mks[j]? = some x := ⟨D.mks[j]'(by have := HN4.out; omega), List.getElem?_eq_getElem _⟩
       obtain ⟨b1, off1, rfl, y0, y1, y2⟩ := mkat (H.out.later (B0.out.trans HL.out)).mks hx
       have HTK : Hid (D.mks.take (j+1) = D.mks.take j ++ [x]) := hide (by rw [List.take_add_one, hx]; rfl)
       have hj0 : (0 : Int) <= (j : Int) := by omega
       have hj1 : (j : Int) < n4 := by omega
       clear hx
       by_cases e : x.period = (T : Int)
       ·have t1 : (x.period == (T : Int)) = true := by simpa using e
        have HC : Hid ((D.mks.take (j+1)).filter (fun x : PMk => decide (x.period = (T : Int))) = (D.mks.take j).filter (fun x : PMk => decide (x.period = (T : Int))) ++ [x]) := hide (by rw [HTK.out, List.filter_append]; simp [e])
        clear e
        go_wp2_with (at_builtin; (refine wpList_append_m rfl _ _ rfl (x) rfl (own_later HOWN.out ((Later.refl wr).alloc _)) rfl (Row.new wr 43 (mCells (x))) (by have := HLE.out; omega) (Nat.le_trans HL.out.size (by simp)) ?_); intro A5 n5 c5 w5 k1 k2; have HK1 := hide k1; have HL5 : Hid (Later W0 w5) := hide ((HL.out.alloc _).grown k2 (fun k hk => (World.ownsRow.lt HOWN.out k hk).1)); clear k1 k2)
        refine ⟨⟨j+1, A5, n5, c5, rfl, by go_num, hide (by omega), hide (by rw [HC.out, <- List.append_assoc]; exact HK1.out), HL5⟩, by simp [intOf]; omega⟩
       ·have t1 : (x.period == (T : Int)) = false := by simpa using e
        have HC : Hid ((D.mks.take (j+1)).filter (fun x : PMk => decide (x.period = (T : Int))) = (D.mks.take j).filter (fun x : PMk => decide (x.period = (T : Int)))) := hide (by rw [HTK.out, List.filter_append]; simp [e])
        clear e
        go_wp2_with fail
        refine ⟨⟨j+1, _, na, ca, rfl, by go_num, hide (by omega), hide (by rw [HC.out]; exact HOWN.out), HL⟩, by simp [intOf]; omega⟩
      ·have hj1 : ¬ (j : Int) < n4 := by omega
       obtain ⟨M, hM⟩ : ∃ M, M = mkT D.mks m qs T ++ D.mks.filter (fun x : PMk => decide (x.period = (T : Int))) := ⟨_, rfl⟩
       rw [List.take_of_length_le (by have := HN4.out; omega), <- hM] at HLE HOWN
       have HML := HLE
       have HMS : Hid (mkT D.mks m qs (T+1) = M ++ (if (T : Int) = m then mksFrom m qs 0 else [])) := hide (by rw [hM]; exact mkT_succ HPN.out HM.out.pPw T)
       clear hM HLE
       go_wp2_with fail
       go_loopw [11, 14] (fun av iv wr => ∃ (j : Nat) (Aa : Option Addr) (na ca : Nat), av = .slice Aa na ca /\ iv = .int .i64 (j : Int) /\ Hid (j <= nq) /\ Hid (T = m ∨ j = 0) /\ Hid (wr.ownsRow W0.heap.size 43 3 (.slice Aa na ca) (M ++ mksFrom m (qs.take j) 0).length ((M ++ mksFrom m (qs.take j) 0).flatMap mCells)) /\ Hid (Later W0 wr)) (fun _ iv _ => (nq - intOf iv).toNat)
       case atStart => exact ⟨0, _, _, _, rfl, rfl, hide (Nat.zero_le _), hide (.inr rfl), hide (by rw [show M ++ mksFrom m (qs.take 0) 0 = M from List.append_nil M]; exact HOWN.out), HL⟩
       case round =>
        obtain ⟨j, Aa, na, ca, rfl, rfl, HJ, HTJ, HOWN, HL⟩ := hrel
        have hq3 := HNQ3.out
        have hT40 := HT40.out
        have HLE : Hid ((M ++ mksFrom m (qs.take j) 0).length <= 3000) := hide (by
         rw [List.length_append, mksFrom_len, List.length_take]; have := HML.out; have := HNQ.out; have := HNQ3.out; omega)
        by_cases e : T = m
        ·have t1 : ((T : Int) == (m : Int)) = true := by simp; omega
         have HE := hide e
         clear e
         by_cases hjn : j < nq
         ·obtain ⟨x, hx⟩ : ∃ x, qs[j]? = some x := ⟨qs[j]'(by have := HNQ.out; omega), List.getElem?_eq_getElem _⟩
          obtain ⟨b1, off1, rfl, y0⟩ := (HQ.out.later (B0.out.trans HL.out)).at1 hx
          have HSN : Hid (mksFrom m (qs.take (j+1)) 0 = mksFrom m (qs.take j) 0 ++ [⟨(j : Nat), m, x⟩]) := hide (by
           have e1 : qs.take (j+1) = qs.take j ++ [x] := by rw [List.take_add_one, hx]; rfl
           rw [e1, mksFrom_sn, List.length_take]
           have e2 : 0 + min j qs.length = j := by have := HNQ.out; omega
           rw [e2])
          have hj0 : (0 : Int) <= (j : Int) := by omega
          have hj1 : (j : Int) < nq := by omega
          have u1 : decide (j < nq) = true := by simpa using hjn
          clear hx
          go_wp2_with (at_builtin; (refine wpList_append_m rfl _ _ rfl (⟨(j : Nat), m, x⟩) rfl (own_later HOWN.out ((Later.refl wr).alloc _)) rfl (Row.new wr 43 (mCells (⟨(j : Nat), m, x⟩))) (by have := HLE.out; omega) (Nat.le_trans HL.out.size (by simp)) ?_); intro A5 n5 c5 w5 k1 k2; have HK1 := hide k1; have HL5 : Hid (Later W0 w5) := hide ((HL.out.alloc _).grown k2 (fun k hk => (World.ownsRow.lt HOWN.out k hk).1)); clear k1 k2)
          refine ⟨⟨j+1, A5, n5, c5, rfl, by go_num, hide (by omega), hide (.inl HE.out), hide (by rw [HSN.out, <- List.append_assoc]; exact HK1.out), HL5⟩, by simp [intOf]; omega⟩
         ·have u1 : decide (j < nq) = false := by simpa using hjn
          have hj1 : ¬ (j : Int) < nq := by omega
          have HEND : Hid (M ++ mksFrom m (qs.take j) 0 = mkT D.mks m qs (T+1)) := hide (by
           rw [List.take_of_length_le (by have := HNQ.out; omega), HMS.out, if_pos (by rw [HE.out])])
          rw [HEND.out] at HOWN
          go_wp2_with fail
          refine ⟨⟨T+1, Aa, na, ca, rfl, by go_num, hide (by have := HT40.out; omega), HOWN, HL⟩, by simp [intOf]; have := HT40.out; omega⟩
        ·have t1 : ((T : Int) == (m : Int)) = false := by simp; omega
         have HE := hide e
         clear e
         have HEND : Hid (M ++ mksFrom m (qs.take j) 0 = mkT D.mks m qs (T+1)) := hide (by
          rw [HTJ.out.resolve_left HE.out, HMS.out, if_neg (by have := HE.out; omega)]; rfl)
         rw [HEND.out] at HOWN
         go_wp2_with fail
         refine ⟨⟨T+1, Aa, na, ca, rfl, by go_num, hide (by have := HT40.out; omega), HOWN, HL⟩, by simp [intOf]; have := HT40.out; omega⟩
    ·have t5 : decide ((T : Int) < 40) = false := by simp; omega
     have HTE : Hid (mkT D.mks m qs T = putM D.mks m qs) := hide (by
      obtain rfl : T = 40 := by have := HT40.out; omega
      exact mkT_end (by have := HP39.out; omega) (fun x hx => by have := HM.out.mks x hx; unfold PMk.okP at this; omega))
     rw [HTE.out] at HOWN
     clear hT
     have rb := R0.out.later HL.out
     have x0 := rb.cell (i := 0) rfl; have xz0 := rb.frozen 0; have x1 := rb.cell (i := 1) rfl; have xz1 := rb.frozen 1; have x2 := rb.cell (i := 2) rfl; have xz2 := rb.frozen 2; have x3 := rb.cell (i := 3) rfl; have xz3 := rb.frozen 3; have x4 := rb.cell (i := 4) rfl; have xz4 := rb.frozen 4; have x5 := rb.cell (i := 5) rfl; have xz5 := rb.frozen 5
     clear rb
     have rz := R1.out.later HL.out
     have q0 := rz.cell (i := 0) rfl; have qz0 := rz.frozen 0; have q1 := rz.cell (i := 1) rfl; have qz1 := rz.frozen 1; have q2 := rz.cell (i := 2) rfl; have qz2 := rz.frozen 2; have q3 := rz.cell (i := 3) rfl; have qz3 := rz.frozen 3; have q4 := rz.cell (i := 4) rfl; have qz4 := rz.frozen 4; have q5 := rz.cell (i := 5) rfl; have qz5 := rz.frozen 5
     clear rz
     go_wp2_with fail
     have o1 := Only.one w.heap.size wr 5 (.slice Aa na ca)
     have o2 := only6 (W := wr.setCell ⟨w.heap.size, 5, none⟩ (.slice Aa na ca)) (w.heap.size + 1) (.slice A1 n1 c1) (.int .i64 D.hor) (.int .i64 D.now) (.slice A2 n2 c2) (.slice A3 n3 c3) (.slice Aa na ca)
     have hz := HSZ0.out
     refine bodyPost_ret (results_bkt rfl rfl rfl (((R1.out.later HL.out).only o1 (by omega)).put6 _ _ _ _ _ _)) rfl ⟨((B0.out.trans HL.out).only o1 (Nat.le_refl _)).only o2 (by omega), ?_⟩
     rw [HV.out]
     exact ⟨_, _, _, _, _, _, _, _, _, _, _, _, rfl, put_end (mk_book (HON.out.later (B0.out.trans HL.out)) HOWN.out (by
      have h1 := mkT_le D.mks m qs T
      rw [HTE.out] at h1
      have := HM.out.ml; have := HNQ.out; have := HNQ3.out; omega) (fun x hx => by
      have h39 := HP39.out
      rcases putM_mem.1 hx with ⟨h1, -⟩ | h1
      ·exact H.out.mfit x h1
      ·have h2 := mksFrom_mem h1
       have h3 := HQB.out _ h2.2.2.2
       have h4 := HNQ3.out; have h5 := HNQ.out
       unfold PMk.fit IFit; omega)) o1 o2 (Nat.le_refl _) (by omega) (by omega) (by omega)⟩
end Go.Proofs.YtncbebfhakcgdaaGreat
namespace Go.Proofs.YtncbebfhakcgdaaGreat
open Go.RowKit Go.Shelf
attribute [local go_sem ↓] Go.wp_at_zero Go.wp_at_succ
theorem adv_book {w : World} {P : Nat -> Prop} {vI vC vO vM : Value} {D : PBook} (h : On w P (fun W => BookIn W vI vC vO vM D)) (hn : IFit (D.now + 1)) : On w P (fun W => BookIn W vI vC vO vM { D with now := D.now + 1 }) :=
 h.map fun W k => { k with nfit := hn }
theorem ref_err {P : Nat -> Prop} {w w' : World} {c : Int} {e : Ending} (h : RefP P w (.error c) e w') : e = .returned (.tuple #[.agg #[.slice none 0 0, .int .i64 0, .int .i64 0, .slice none 0 0, .slice none 0 0, .slice none 0 0], .int .i64 c]) /\ Later w w' := ⟨h.2, h.1⟩
theorem ref_ok {P : Nat -> Prop} {w w' : World} {D' : PBook} {e : Ending} (h : RefP P w (.ok D') e w') : ∃ B1 B2 B3 B4 m1 m2 m3 m4 d1 d2 d3 d4, e = .returned (.tuple #[.agg #[.slice B1 m1 d1, .int .i64 D'.hor, .int .i64 D'.now, .slice B2 m2 d2, .slice B3 m3 d3, .slice B4 m4 d4], .int .i64 0]) /\ On w' (fun b => P b ∨ w.heap.size <= b) (fun W => BookIn W (.slice B1 m1 d1) (.slice B2 m2 d2) (.slice B3 m3 d3) (.slice B4 m4 d4) D') /\ Later w w' := by
 obtain ⟨hl, B1, B2, B3, B4, m1, m2, m3, m4, d1, d2, d3, d4, e, h⟩ := h
 exact ⟨B1, B2, B3, B4, m1, m2, m3, m4, d1, d2, d3, d4, e, h, hl⟩
set_option maxHeartbeats 2000000 in
theorem rapply_calls (w : World) (A1 A2 A3 A4 : Option Addr) (n1 n2 n3 n4 c1 c2 c3 c4 : Nat) (D : PBook) (Aq : Option Addr) (nq cq : Nat) (o : POp) (h : BookIn w (.slice A1 n1 c1) (.slice A2 n2 c2) (.slice A3 n3 c3) (.slice A4 n4 c4) D) (hof : o.ord.fit) (hQ : Sq 1 iCells w (.slice Aq nq cq) o.qtys) :
 Calls Tryz.prog 13 #[.agg #[.slice A1 n1 c1, .int .i64 D.hor, .int .i64 D.now, .slice A2 n2 c2, .slice A3 n3 c3, .slice A4 n4 c4], .agg #[.int .i64 o.kind, .int .i64 o.ord.id, .int .i64 o.ord.item, .int .i64 o.ord.due, .int .i64 o.ord.qty, .int .i64 o.id, .int .i64 o.period, .int .i64 o.qty, .slice Aq nq cq]] w (RefP (fun b => b < w.heap.size) w (applyV D o)) := by
 have hnq : nq = o.qtys.length := by
  obtain ⟨_, _, _, e, e2, -⟩ := hQ.form
  injection e with _ e3 _; omega
 have H := hide h; have HNQ := hide hnq; have HQ := hide hQ; have HOF := hide hof
 clear h hnq hQ hof
 obtain ⟨W0, hW0⟩ : ∃ W0, W0 = (((w.alloc (Obj.cells #[Value.slice A1 n1 c1, Value.int .i64 D.hor, Value.int .i64 D.now, Value.slice A2 n2 c2, Value.slice A3 n3 c3, Value.slice A4 n4 c4] 27)).alloc (Obj.cells #[Value.int .i64 o.kind, Value.int .i64 o.ord.id, Value.int .i64 o.ord.item, Value.int .i64 o.ord.due, Value.int .i64 o.ord.qty, Value.int .i64 o.id, Value.int .i64 o.period, Value.int .i64 o.qty, Value.slice Aq nq cq] 31)).alloc (Obj.cells #[Value.slice none 0 0, Value.int .i64 0, Value.int .i64 0, Value.slice none 0 0, Value.slice none 0 0, Value.slice none 0 0] 27)) := ⟨_, rfl⟩
 obtain ⟨hb0, r0, r1, r2, hsz0⟩ := boxes3 w [.slice A1 n1 c1, .int .i64 D.hor, .int .i64 D.now, .slice A2 n2 c2, .slice A3 n3 c3, .slice A4 n4 c4] [.int .i64 o.kind, .int .i64 o.ord.id, .int .i64 o.ord.item, .int .i64 o.ord.due, .int .i64 o.ord.qty, .int .i64 o.id, .int .i64 o.period, .int .i64 o.qty, .slice Aq nq cq] [.slice none 0 0, .int .i64 0, .int .i64 0, .slice none 0 0, .slice none 0 0, .slice none 0 0] 27 31 27 hW0
 have B0 := hide hb0; have HW0 := hide hW0; have HSZ0 := hide hsz0
 have R0 := hide r0; have R1 := hide r1; have R2 := hide r2
 clear hb0 hW0 hsz0 r0 r1 r2
 go_enter Tryz.func13, Tryz.ntmps13
 go_upto_region 1 with fail
 rw [<- HW0.out]
 have r_x := R0.out.later (Later.refl W0)
 have x0 := r_x.cell (i := 0) rfl; have x1 := r_x.cell (i := 1) rfl; have x2 := r_x.cell (i := 2) rfl; have x3 := r_x.cell (i := 3) rfl; have x4 := r_x.cell (i := 4) rfl; have x5 := r_x.cell (i := 5) rfl
 clear r_x
 have rz := R2.out
 have q0 := rz.cell (i := 0) rfl; have qz0 := rz.frozen 0; have q1 := rz.cell (i := 1) rfl; have qz1 := rz.frozen 1; have q2 := rz.cell (i := 2) rfl; have qz2 := rz.frozen 2; have q3 := rz.cell (i := 3) rfl; have qz3 := rz.frozen 3; have q4 := rz.cell (i := 4) rfl; have qz4 := rz.frozen 4; have q5 := rz.cell (i := 5) rfl; have qz5 := rz.frozen 5
 clear rz
 obtain ⟨um, hum⟩ : ∃ u, mayB D = u := ⟨_, rfl⟩
 have HUM := hide hum
 clear hum
 cases um with
 | false =>
   have HV : Hid (applyV D o = .error 1) := hide (by unfold applyV; rw [if_pos (.inl HUM.out)])
   go_wp2_with (go_at_call 16; (refine (rmay_calls _ A1 A2 A3 A4 n1 n2 n3 n4 c1 c2 c3 c4 D (H.out.later B0.out) _ HUM.out).mono ?_); rintro e w1 ⟨rfl, b1⟩; replace q0 := Later.cell b1 q0; replace qz0 := (R2.out.later b1).frozen 0; replace q1 := Later.cell b1 q1; replace qz1 := (R2.out.later b1).frozen 1; replace q2 := Later.cell b1 q2; replace qz2 := (R2.out.later b1).frozen 2; replace q3 := Later.cell b1 q3; replace qz3 := (R2.out.later b1).frozen 3; replace q4 := Later.cell b1 q4; replace qz4 := (R2.out.later b1).frozen 4; replace q5 := Later.cell b1 q5; replace qz5 := (R2.out.later b1).frozen 5)
   refine bodyPost_ret (results_bkt rfl rfl rfl ((R2.out.later b1).put6 _ _ _ _ _ _)) rfl ⟨(B0.out.trans b1).only (only6 _ _ _ _ _ _ _) (by omega), by rw [HV.out]; rfl⟩
 | true =>
 obtain ⟨up, hup⟩ : ∃ u, plainB o = u := ⟨_, rfl⟩
 have HUP := hide hup
 clear hup
 cases up with
 | false =>
   have HV : Hid (applyV D o = .error 1) := hide (by unfold applyV; rw [if_pos (.inr HUP.out)])
   go_wp2_with (first | (go_at_call 16; (refine (rmay_calls _ A1 A2 A3 A4 n1 n2 n3 n4 c1 c2 c3 c4 D (H.out.later B0.out) _ HUM.out).mono ?_); rintro e w1 ⟨rfl, b1⟩; have ry := R1.out.later b1; have y0 := ry.cell (i := 0) rfl; have y1 := ry.cell (i := 1) rfl; have y2 := ry.cell (i := 2) rfl; have y3 := ry.cell (i := 3) rfl; have y4 := ry.cell (i := 4) rfl; have y5 := ry.cell (i := 5) rfl; have y6 := ry.cell (i := 6) rfl; have y7 := ry.cell (i := 7) rfl; have y8 := ry.cell (i := 8) rfl; clear ry) | (go_at_call 38; (refine (rplain20_calls _ Aq nq cq o HNQ.out _ HUP.out).mono ?_); rintro e w2 ⟨rfl, b2⟩; replace q0 := Later.cell (b1.trans b2) q0; replace qz0 := (R2.out.later (b1.trans b2)).frozen 0; replace q1 := Later.cell (b1.trans b2) q1; replace qz1 := (R2.out.later (b1.trans b2)).frozen 1; replace q2 := Later.cell (b1.trans b2) q2; replace qz2 := (R2.out.later (b1.trans b2)).frozen 2; replace q3 := Later.cell (b1.trans b2) q3; replace qz3 := (R2.out.later (b1.trans b2)).frozen 3; replace q4 := Later.cell (b1.trans b2) q4; replace qz4 := (R2.out.later (b1.trans b2)).frozen 4; replace q5 := Later.cell (b1.trans b2) q5; replace qz5 := (R2.out.later (b1.trans b2)).frozen 5))
   refine bodyPost_ret (results_bkt rfl rfl rfl ((R2.out.later (b1.trans b2)).put6 _ _ _ _ _ _)) rfl ⟨(B0.out.trans (b1.trans b2)).only (only6 _ _ _ _ _ _ _) (by omega), by rw [HV.out]; rfl⟩
 | true =>
 have HMAY := hide (mayB_iff.1 HUM.out)
 have HNT : Hid (¬ (mayB D = false ∨ plainB o = false)) := hide (by rw [HUM.out, HUP.out]; simp)
 have HKR := hide (plainB_iff.1 HUP.out).1
 go_upto_region 3 with (first | (go_at_call 16; (refine (rmay_calls _ A1 A2 A3 A4 n1 n2 n3 n4 c1 c2 c3 c4 D (H.out.later B0.out) _ HUM.out).mono ?_); rintro e w1 ⟨rfl, b1⟩; have ry := R1.out.later b1; have y0 := ry.cell (i := 0) rfl; have y1 := ry.cell (i := 1) rfl; have y2 := ry.cell (i := 2) rfl; have y3 := ry.cell (i := 3) rfl; have y4 := ry.cell (i := 4) rfl; have y5 := ry.cell (i := 5) rfl; have y6 := ry.cell (i := 6) rfl; have y7 := ry.cell (i := 7) rfl; have y8 := ry.cell (i := 8) rfl; clear ry) | (go_at_call 38; (refine (rplain20_calls _ Aq nq cq o HNQ.out _ HUP.out).mono ?_); rintro e w2 ⟨rfl, b2⟩; have HLM := hide (b1.trans b2)))
 clear b1 b2 x0 x1 x2 x3 x4 x5 y0 y1 y2 y3 y4 y5 y6 y7 y8 q0 q1 q2 q3 q4 q5 qz0 qz1 qz2 qz3 qz4 qz5
 have r_x := R0.out.later HLM.out
 have x0 := r_x.cell (i := 0) rfl; have x1 := r_x.cell (i := 1) rfl; have x2 := r_x.cell (i := 2) rfl; have x3 := r_x.cell (i := 3) rfl; have x4 := r_x.cell (i := 4) rfl; have x5 := r_x.cell (i := 5) rfl
 clear r_x
 have r_y := R1.out.later HLM.out
 have y0 := r_y.cell (i := 0) rfl; have y1 := r_y.cell (i := 1) rfl; have y2 := r_y.cell (i := 2) rfl; have y3 := r_y.cell (i := 3) rfl; have y4 := r_y.cell (i := 4) rfl; have y5 := r_y.cell (i := 5) rfl; have y6 := r_y.cell (i := 6) rfl; have y7 := r_y.cell (i := 7) rfl; have y8 := r_y.cell (i := 8) rfl
 clear r_y
 have rz := R2.out.later HLM.out
 have q0 := rz.cell (i := 0) rfl; have qz0 := rz.frozen 0; have q1 := rz.cell (i := 1) rfl; have qz1 := rz.frozen 1; have q2 := rz.cell (i := 2) rfl; have qz2 := rz.frozen 2; have q3 := rz.cell (i := 3) rfl; have qz3 := rz.frozen 3; have q4 := rz.cell (i := 4) rfl; have qz4 := rz.frozen 4; have q5 := rz.cell (i := 5) rfl; have qz5 := rz.frozen 5
 clear rz
 by_cases k1 : o.kind = 1
 ·have t1 : (o.kind == 1) = true := by simpa using k1
  have HAP : Hid (applyV D o = ordV D o.ord) := hide (by unfold applyV; rw [if_neg HNT.out, if_pos k1])
  clear k1
  obtain ⟨r, hr⟩ : ∃ r, ordV D o.ord = r := ⟨_, rfl⟩
  have HC : Hid (Calls Tryz.prog 39 #[.agg #[.slice A1 n1 c1, .int .i64 D.hor, .int .i64 D.now, .slice A2 n2 c2, .slice A3 n3 c3, .slice A4 n4 c4], .agg #[.int .i64 o.ord.id, .int .i64 o.ord.item, .int .i64 o.ord.due, .int .i64 o.ord.qty]] w2 (RefP (fun b => b < w.heap.size) w2 r)) := hide (by rw [<- hr]; exact rorder_calls w2 A1 A2 A3 A4 n1 n2 n3 n4 c1 c2 c3 c4 D (fun b => b < w.heap.size) ((On.book H.out).later (B0.out.trans HLM.out)) HMAY.out o.ord HOF.out)
  have HV : Hid (applyV D o = r) := hide (by rw [HAP.out]; exact hr)
  clear hr HAP
  cases r with
  | error c =>
    go_wp2_with (go_at_call 39; (refine (HC.out).mono ?_); rintro e w3 h3; obtain ⟨rfl, b3⟩ := ref_err h3; replace q0 := Later.cell b3 q0; replace qz0 := (R2.out.later (HLM.out.trans b3)).frozen 0; replace q1 := Later.cell b3 q1; replace qz1 := (R2.out.later (HLM.out.trans b3)).frozen 1; replace q2 := Later.cell b3 q2; replace qz2 := (R2.out.later (HLM.out.trans b3)).frozen 2; replace q3 := Later.cell b3 q3; replace qz3 := (R2.out.later (HLM.out.trans b3)).frozen 3; replace q4 := Later.cell b3 q4; replace qz4 := (R2.out.later (HLM.out.trans b3)).frozen 4; replace q5 := Later.cell b3 q5; replace qz5 := (R2.out.later (HLM.out.trans b3)).frozen 5)
    refine bodyPost_ret (results_bkt rfl rfl rfl ((R2.out.later (HLM.out.trans b3)).put6 _ _ _ _ _ _)) rfl ⟨(B0.out.trans (HLM.out.trans b3)).only (only6 _ _ _ _ _ _ _) (by omega), by rw [HV.out]; rfl⟩
  | ok D' =>
    go_wp2_with (go_at_call 39; (refine (HC.out).mono ?_); rintro e w3 h3; obtain ⟨B1, B2, B3, B4, m1, m2, m3, m4, d1, d2, d3, d4, rfl, on3, b3⟩ := ref_ok h3; have HO3 := hide on3; clear h3 on3; replace q0 := Later.cell b3 q0; replace qz0 := (R2.out.later (HLM.out.trans b3)).frozen 0; replace q1 := Later.cell b3 q1; replace qz1 := (R2.out.later (HLM.out.trans b3)).frozen 1; replace q2 := Later.cell b3 q2; replace qz2 := (R2.out.later (HLM.out.trans b3)).frozen 2; replace q3 := Later.cell b3 q3; replace qz3 := (R2.out.later (HLM.out.trans b3)).frozen 3; replace q4 := Later.cell b3 q4; replace qz4 := (R2.out.later (HLM.out.trans b3)).frozen 4; replace q5 := Later.cell b3 q5; replace qz5 := (R2.out.later (HLM.out.trans b3)).frozen 5)
    have o2 := only6 (W := w3) (w.heap.size + 1 + 1) (.slice B1 m1 d1) (.int .i64 D'.hor) (.int .i64 D'.now) (.slice B2 m2 d2) (.slice B3 m3 d3) (.slice B4 m4 d4)
    refine bodyPost_ret (results_bkt rfl rfl rfl ((R2.out.later (HLM.out.trans b3)).put6 _ _ _ _ _ _)) rfl ⟨(B0.out.trans (HLM.out.trans b3)).only o2 (by omega), ?_⟩
    rw [HV.out]
    have hz := HSZ0.out
    have hs2 := HLM.out.size
    exact ⟨_, _, _, _, _, _, _, _, _, _, _, _, rfl, (HO3.out.only o2 (by omega)).mono (fun b hb _ => by omega)⟩
 have t1 : (o.kind == 1) = false := by simpa using k1
 by_cases k2 : o.kind = 2
 ·have t2 : (o.kind == 2) = true := by simpa using k2
  have HAP : Hid (applyV D o = canV D o.id) := hide (by unfold applyV; rw [if_neg HNT.out, if_neg k1, if_pos k2])
  clear k1 k2
  obtain ⟨r, hr⟩ : ∃ r, canV D o.id = r := ⟨_, rfl⟩
  have HC : Hid (Calls Tryz.prog 40 #[.agg #[.slice A1 n1 c1, .int .i64 D.hor, .int .i64 D.now, .slice A2 n2 c2, .slice A3 n3 c3, .slice A4 n4 c4], .int .i64 o.id] w2 (RefP (fun b => b < w.heap.size) w2 r)) := hide (by rw [<- hr]; exact rcancel_calls w2 A1 A2 A3 A4 n1 n2 n3 n4 c1 c2 c3 c4 D (fun b => b < w.heap.size) ((On.book H.out).later (B0.out.trans HLM.out)) HMAY.out o.id)
  have HV : Hid (applyV D o = r) := hide (by rw [HAP.out]; exact hr)
  clear hr HAP
  cases r with
  | error c =>
    go_wp2_with (go_at_call 40; (refine (HC.out).mono ?_); rintro e w3 h3; obtain ⟨rfl, b3⟩ := ref_err h3; replace q0 := Later.cell b3 q0; replace qz0 := (R2.out.later (HLM.out.trans b3)).frozen 0; replace q1 := Later.cell b3 q1; replace qz1 := (R2.out.later (HLM.out.trans b3)).frozen 1; replace q2 := Later.cell b3 q2; replace qz2 := (R2.out.later (HLM.out.trans b3)).frozen 2; replace q3 := Later.cell b3 q3; replace qz3 := (R2.out.later (HLM.out.trans b3)).frozen 3; replace q4 := Later.cell b3 q4; replace qz4 := (R2.out.later (HLM.out.trans b3)).frozen 4; replace q5 := Later.cell b3 q5; replace qz5 := (R2.out.later (HLM.out.trans b3)).frozen 5)
    refine bodyPost_ret (results_bkt rfl rfl rfl ((R2.out.later (HLM.out.trans b3)).put6 _ _ _ _ _ _)) rfl ⟨(B0.out.trans (HLM.out.trans b3)).only (only6 _ _ _ _ _ _ _) (by omega), by rw [HV.out]; rfl⟩
  | ok D' =>
    go_wp2_with (go_at_call 40; (refine (HC.out).mono ?_); rintro e w3 h3; obtain ⟨B1, B2, B3, B4, m1, m2, m3, m4, d1, d2, d3, d4, rfl, on3, b3⟩ := ref_ok h3; have HO3 := hide on3; clear h3 on3; replace q0 := Later.cell b3 q0; replace qz0 := (R2.out.later (HLM.out.trans b3)).frozen 0; replace q1 := Later.cell b3 q1; replace qz1 := (R2.out.later (HLM.out.trans b3)).frozen 1; replace q2 := Later.cell b3 q2; replace qz2 := (R2.out.later (HLM.out.trans b3)).frozen 2; replace q3 := Later.cell b3 q3; replace qz3 := (R2.out.later (HLM.out.trans b3)).frozen 3; replace q4 := Later.cell b3 q4; replace qz4 := (R2.out.later (HLM.out.trans b3)).frozen 4; replace q5 := Later.cell b3 q5; replace qz5 := (R2.out.later (HLM.out.trans b3)).frozen 5)
    have o2 := only6 (W := w3) (w.heap.size + 1 + 1) (.slice B1 m1 d1) (.int .i64 D'.hor) (.int .i64 D'.now) (.slice B2 m2 d2) (.slice B3 m3 d3) (.slice B4 m4 d4)
    refine bodyPost_ret (results_bkt rfl rfl rfl ((R2.out.later (HLM.out.trans b3)).put6 _ _ _ _ _ _)) rfl ⟨(B0.out.trans (HLM.out.trans b3)).only o2 (by omega), ?_⟩
    rw [HV.out]
    have hz := HSZ0.out
    have hs2 := HLM.out.size
    exact ⟨_, _, _, _, _, _, _, _, _, _, _, _, rfl, (HO3.out.only o2 (by omega)).mono (fun b hb _ => by omega)⟩
 have t2 : (o.kind == 2) = false := by simpa using k2
 by_cases k3 : o.kind = 3
 ·have t3 : (o.kind == 3) = true := by simpa using k3
  have HAP : Hid (applyV D o = capS D o.period o.qty) := hide (by unfold applyV; rw [if_neg HNT.out, if_neg k1, if_neg k2, if_pos k3])
  clear k1 k2 k3
  obtain ⟨r, hr⟩ : ∃ r, capS D o.period o.qty = r := ⟨_, rfl⟩
  have HC : Hid (Calls Tryz.prog 41 #[.agg #[.slice A1 n1 c1, .int .i64 D.hor, .int .i64 D.now, .slice A2 n2 c2, .slice A3 n3 c3, .slice A4 n4 c4], .int .i64 o.period, .int .i64 o.qty] w2 (RefP (fun b => b < w.heap.size) w2 r)) := hide (by rw [<- hr]; exact rcapacity_calls w2 A1 A2 A3 A4 n1 n2 n3 n4 c1 c2 c3 c4 D (fun b => b < w.heap.size) ((On.book H.out).later (B0.out.trans HLM.out)) HMAY.out o.period o.qty)
  have HV : Hid (applyV D o = r) := hide (by rw [HAP.out]; exact hr)
  clear hr HAP
  cases r with
  | error c =>
    go_wp2_with (go_at_call 41; (refine (HC.out).mono ?_); rintro e w3 h3; obtain ⟨rfl, b3⟩ := ref_err h3; replace q0 := Later.cell b3 q0; replace qz0 := (R2.out.later (HLM.out.trans b3)).frozen 0; replace q1 := Later.cell b3 q1; replace qz1 := (R2.out.later (HLM.out.trans b3)).frozen 1; replace q2 := Later.cell b3 q2; replace qz2 := (R2.out.later (HLM.out.trans b3)).frozen 2; replace q3 := Later.cell b3 q3; replace qz3 := (R2.out.later (HLM.out.trans b3)).frozen 3; replace q4 := Later.cell b3 q4; replace qz4 := (R2.out.later (HLM.out.trans b3)).frozen 4; replace q5 := Later.cell b3 q5; replace qz5 := (R2.out.later (HLM.out.trans b3)).frozen 5)
    refine bodyPost_ret (results_bkt rfl rfl rfl ((R2.out.later (HLM.out.trans b3)).put6 _ _ _ _ _ _)) rfl ⟨(B0.out.trans (HLM.out.trans b3)).only (only6 _ _ _ _ _ _ _) (by omega), by rw [HV.out]; rfl⟩
  | ok D' =>
    go_wp2_with (go_at_call 41; (refine (HC.out).mono ?_); rintro e w3 h3; obtain ⟨B1, B2, B3, B4, m1, m2, m3, m4, d1, d2, d3, d4, rfl, on3, b3⟩ := ref_ok h3; have HO3 := hide on3; clear h3 on3; replace q0 := Later.cell b3 q0; replace qz0 := (R2.out.later (HLM.out.trans b3)).frozen 0; replace q1 := Later.cell b3 q1; replace qz1 := (R2.out.later (HLM.out.trans b3)).frozen 1; replace q2 := Later.cell b3 q2; replace qz2 := (R2.out.later (HLM.out.trans b3)).frozen 2; replace q3 := Later.cell b3 q3; replace qz3 := (R2.out.later (HLM.out.trans b3)).frozen 3; replace q4 := Later.cell b3 q4; replace qz4 := (R2.out.later (HLM.out.trans b3)).frozen 4; replace q5 := Later.cell b3 q5; replace qz5 := (R2.out.later (HLM.out.trans b3)).frozen 5)
    have o2 := only6 (W := w3) (w.heap.size + 1 + 1) (.slice B1 m1 d1) (.int .i64 D'.hor) (.int .i64 D'.now) (.slice B2 m2 d2) (.slice B3 m3 d3) (.slice B4 m4 d4)
    refine bodyPost_ret (results_bkt rfl rfl rfl ((R2.out.later (HLM.out.trans b3)).put6 _ _ _ _ _ _)) rfl ⟨(B0.out.trans (HLM.out.trans b3)).only o2 (by omega), ?_⟩
    rw [HV.out]
    have hz := HSZ0.out
    have hs2 := HLM.out.size
    exact ⟨_, _, _, _, _, _, _, _, _, _, _, _, rfl, (HO3.out.only o2 (by omega)).mono (fun b hb _ => by omega)⟩
 have t3 : (o.kind == 3) = false := by simpa using k3
 by_cases k5 : o.kind = 5
 ·have t5 : (o.kind == 5) = true := by simpa using k5
  have HAP : Hid (applyV D o = comV D o.period o.qtys) := hide (by unfold applyV; rw [if_neg HNT.out, if_neg k1, if_neg k2, if_neg k3, if_pos k5])
  clear k1 k2 k3 k5
  obtain ⟨r, hr⟩ : ∃ r, comV D o.period o.qtys = r := ⟨_, rfl⟩
  have HC : Hid (Calls Tryz.prog 42 #[.agg #[.slice A1 n1 c1, .int .i64 D.hor, .int .i64 D.now, .slice A2 n2 c2, .slice A3 n3 c3, .slice A4 n4 c4], .int .i64 o.period, .slice Aq nq cq] w2 (RefP (fun b => b < w.heap.size) w2 r)) := hide (by rw [<- hr]; exact rcommit_calls w2 A1 A2 A3 A4 n1 n2 n3 n4 c1 c2 c3 c4 D (fun b => b < w.heap.size) ((On.book H.out).later (B0.out.trans HLM.out)) HMAY.out Aq nq cq o.period o.qtys (HQ.out.later (B0.out.trans HLM.out)))
  have HV : Hid (applyV D o = r) := hide (by rw [HAP.out]; exact hr)
  clear hr HAP
  cases r with
  | error c =>
    go_wp2_with (go_at_call 42; (refine (HC.out).mono ?_); rintro e w3 h3; obtain ⟨rfl, b3⟩ := ref_err h3; replace q0 := Later.cell b3 q0; replace qz0 := (R2.out.later (HLM.out.trans b3)).frozen 0; replace q1 := Later.cell b3 q1; replace qz1 := (R2.out.later (HLM.out.trans b3)).frozen 1; replace q2 := Later.cell b3 q2; replace qz2 := (R2.out.later (HLM.out.trans b3)).frozen 2; replace q3 := Later.cell b3 q3; replace qz3 := (R2.out.later (HLM.out.trans b3)).frozen 3; replace q4 := Later.cell b3 q4; replace qz4 := (R2.out.later (HLM.out.trans b3)).frozen 4; replace q5 := Later.cell b3 q5; replace qz5 := (R2.out.later (HLM.out.trans b3)).frozen 5)
    refine bodyPost_ret (results_bkt rfl rfl rfl ((R2.out.later (HLM.out.trans b3)).put6 _ _ _ _ _ _)) rfl ⟨(B0.out.trans (HLM.out.trans b3)).only (only6 _ _ _ _ _ _ _) (by omega), by rw [HV.out]; rfl⟩
  | ok D' =>
    go_wp2_with (go_at_call 42; (refine (HC.out).mono ?_); rintro e w3 h3; obtain ⟨B1, B2, B3, B4, m1, m2, m3, m4, d1, d2, d3, d4, rfl, on3, b3⟩ := ref_ok h3; have HO3 := hide on3; clear h3 on3; replace q0 := Later.cell b3 q0; replace qz0 := (R2.out.later (HLM.out.trans b3)).frozen 0; replace q1 := Later.cell b3 q1; replace qz1 := (R2.out.later (HLM.out.trans b3)).frozen 1; replace q2 := Later.cell b3 q2; replace qz2 := (R2.out.later (HLM.out.trans b3)).frozen 2; replace q3 := Later.cell b3 q3; replace qz3 := (R2.out.later (HLM.out.trans b3)).frozen 3; replace q4 := Later.cell b3 q4; replace qz4 := (R2.out.later (HLM.out.trans b3)).frozen 4; replace q5 := Later.cell b3 q5; replace qz5 := (R2.out.later (HLM.out.trans b3)).frozen 5)
    have o2 := only6 (W := w3) (w.heap.size + 1 + 1) (.slice B1 m1 d1) (.int .i64 D'.hor) (.int .i64 D'.now) (.slice B2 m2 d2) (.slice B3 m3 d3) (.slice B4 m4 d4)
    refine bodyPost_ret (results_bkt rfl rfl rfl ((R2.out.later (HLM.out.trans b3)).put6 _ _ _ _ _ _)) rfl ⟨(B0.out.trans (HLM.out.trans b3)).only o2 (by omega), ?_⟩
    rw [HV.out]
    have hz := HSZ0.out
    have hs2 := HLM.out.size
    exact ⟨_, _, _, _, _, _, _, _, _, _, _, _, rfl, (HO3.out.only o2 (by omega)).mono (fun b hb _ => by omega)⟩
 have t5 : (o.kind == 5) = false := by simpa using k5
 have HAP : Hid (applyV D o = advV D) := hide (by unfold applyV; rw [if_neg HNT.out, if_neg k1, if_neg k2, if_neg k3, if_neg k5])
 clear k1 k2 k3 k5
 by_cases g : 40 <= D.now
 ·have t6 : decide (40 <= D.now) = true := by simpa using g
  have HV : Hid (applyV D o = .error 3) := hide (by rw [HAP.out]; unfold advV; rw [if_pos g])
  clear g
  go_wp2_with fail
  refine bodyPost_ret (results_bkt rfl rfl rfl ((R2.out.later HLM.out).put6 _ _ _ _ _ _)) rfl ⟨(B0.out.trans HLM.out).only (only6 _ _ _ _ _ _ _) (by omega), by rw [HV.out]; rfl⟩
 ·have t6 : decide (40 <= D.now) = false := by simpa using g
  have HV : Hid (applyV D o = .ok { D with now := D.now + 1 }) := hide (by rw [HAP.out]; unfold advV; rw [if_neg g])
  have HNB : Hid (0 <= D.now /\ D.now < 40) := hide ⟨HMAY.out.head.t0, by omega⟩
  have hw : IntKind.i64.wrap (D.now + 1) = D.now + 1 := IntWalk.i64_in _ (by have := HNB.out; omega)
  have xz2 := (R0.out.later HLM.out).frozen 2
  clear g
  go_wp2_with fail
  have o1 := Only.one w.heap.size w2 2 (.int .i64 (D.now + 1))
  have o2 := only6 (W := w2.setCell ⟨w.heap.size, 2, none⟩ (.int .i64 (D.now + 1))) (w.heap.size + 1 + 1) (.slice A1 n1 c1) (.int .i64 D.hor) (.int .i64 (D.now + 1)) (.slice A2 n2 c2) (.slice A3 n3 c3) (.slice A4 n4 c4)
  have hz := HSZ0.out
  refine bodyPost_ret (results_bkt rfl rfl rfl (((R2.out.later HLM.out).only o1 (by omega)).put6 _ _ _ _ _ _)) rfl ⟨((B0.out.trans HLM.out).only o1 (Nat.le_refl _)).only o2 (by omega), ?_⟩
  rw [HV.out]
  have hon : On w2 (fun b => b < w.heap.size) (fun W => BookIn W (.slice A1 n1 c1) (.slice A2 n2 c2) (.slice A3 n3 c3) (.slice A4 n4 c4) { D with now := D.now + 1 }) := adv_book ((On.book H.out).later (B0.out.trans HLM.out)) (by have := HNB.out; unfold IFit; omega)
  exact ⟨_, _, _, _, _, _, _, _, _, _, _, _, rfl, ((hon.only o1 (by omega)).only o2 (by omega)).mono (fun b hb _ => .inl hb)⟩
end Go.Proofs.YtncbebfhakcgdaaGreat
namespace Go.Proofs.YtncbebfhakcgdaaGreat
open Go.RowKit Go.Shelf
attribute [local go_sem ↓] Go.wp_at_zero Go.wp_at_succ
def DZ : PBook := ⟨[], 0, 0, [], [], []⟩
def resB (r : Except Int PBook) : PBook := match r with
 | .ok D => D
 | .error _ => DZ
def resC (r : Except Int PBook) : Int := match r with
 | .ok _ => 0
 | .error c => c
theorem BookIn.zero (w : World) : BookIn w (.slice none 0 0) (.slice none 0 0) (.slice none 0 0) (.slice none 0 0) DZ :=
 ⟨⟨none, 0, rfl, by simp [DZ], by decide, fun i x hi => by simp [DZ] at hi⟩, Sq.nil _ _ _, Sq.nil _ _ _, Sq.nil _ _ _, by simp [DZ], by simp [DZ], by simp [DZ], by simp [DZ], by unfold IFit DZ; dsimp only; omega, by unfold IFit DZ; dsimp only; omega, (fun z hz => by simp [DZ] at hz), (fun z hz => by simp [DZ] at hz), (fun z hz => by simp [DZ] at hz)⟩
def ResP (w : World) (r : Except Int PBook) (e : Ending) (w' : World) : Prop := Later w w' /\ ∃ B1 B2 B3 B4 m1 m2 m3 m4 d1 d2 d3 d4, e = .returned (.tuple #[.agg #[.slice B1 m1 d1, .int .i64 (resB r).hor, .int .i64 (resB r).now, .slice B2 m2 d2, .slice B3 m3 d3, .slice B4 m4 d4], .int .i64 (resC r)]) /\ BookIn w' (.slice B1 m1 d1) (.slice B2 m2 d2) (.slice B3 m3 d3) (.slice B4 m4 d4) (resB r)
theorem res_cau {w w' : World} {r : Except Int PBook} {e : Ending} (h : CauP w r e w') : ResP w r e w' := by
 obtain ⟨h1, h2⟩ := h
 cases r with
 | error c => exact ⟨h1, none, none, none, none, 0, 0, 0, 0, 0, 0, 0, 0, h2, BookIn.zero w'⟩
 | ok D' =>
   obtain ⟨hm, A1, A2, A3, A4, n1, n2, n3, n4, c1, c2, c3, c4, e1, hk⟩ := h2
   exact ⟨h1, A1, A2, A3, A4, n1, n2, n3, n4, c1, c2, c3, c4, e1, hk.book (fit_of_may hm)⟩
theorem res_ref {P : Nat -> Prop} {w w' : World} {r : Except Int PBook} {e : Ending} (h : RefP P w r e w') : ResP w r e w' := by
 obtain ⟨h1, h2⟩ := h
 cases r with
 | error c => exact ⟨h1, none, none, none, none, 0, 0, 0, 0, 0, 0, 0, 0, h2, BookIn.zero w'⟩
 | ok D' =>
   obtain ⟨A1, A2, A3, A4, n1, n2, n3, n4, c1, c2, c3, c4, e1, hk⟩ := h2
   exact ⟨h1, A1, A2, A3, A4, n1, n2, n3, n4, c1, c2, c3, c4, e1, hk.now⟩
theorem BookIn.newD {w : World} {vI vC vO vM : Value} {D : PBook} (h : BookIn w vI vC vO vM D) : BookIn w vI (.slice none 0 0) (.slice none 0 0) (.slice none 0 0) (newD D.items D.hor) :=
 ⟨h.its, Sq.nil _ _ _, Sq.nil _ _ _, Sq.nil _ _ _, h.il, Nat.zero_le _, Nat.zero_le _, Nat.zero_le _, h.hfit, (show IFit 0 by unfold IFit; omega), (fun z hz => by cases hz), (fun z hz => by cases hz), (fun z hz => by cases hz)⟩
theorem new_code (items : List PItem) (hor : Int) : (resC (newV items hor) == 0) = mayB (newD items hor) := by
 unfold newV
 split
 ·rename_i h; rw [h]; rfl
 ·rename_i h; rw [Bool.eq_false_iff.2 h]; rfl
theorem new_bare (items : List PItem) (hor : Int) : (resB (newV items hor)).now = 0 /\ (resB (newV items hor)).mks = [] := by
 unfold newV
 split <;> exact ⟨rfl, rfl⟩
def ArgOp (w : World) (v : Value) : Prop := ∃ (A : Option Addr) (n c : Nat) (o : POp), v = .agg #[.int .i64 o.kind, .int .i64 o.ord.id, .int .i64 o.ord.item, .int .i64 o.ord.due, .int .i64 o.ord.qty, .int .i64 o.id, .int .i64 o.period, .int .i64 o.qty, .slice A n c] /\ Sq 1 iCells w (.slice A n c) o.qtys /\ o.ord.fit /\ (A = none -> c = 0)
set_option maxHeartbeats 4000000 in
theorem fewop2_calls (w : World) (Aq : Option Addr) (nq cq : Nat) (o : POp) (u : Bool) (hu : decide (nq <= 100) = u) :
 Calls Tryz.prog 11 #[.agg #[.int .i64 o.kind, .int .i64 o.ord.id, .int .i64 o.ord.item, .int .i64 o.ord.due, .int .i64 o.ord.qty, .int .i64 o.id, .int .i64 o.period, .int .i64 o.qty, .slice Aq nq cq]] w (RetV w (.bool u)) := by
 have HU := hide hu
 clear hu
 obtain ⟨W0, hW0⟩ : ∃ W0, W0 = (w.alloc (Obj.cells #[Value.int .i64 o.kind, Value.int .i64 o.ord.id, Value.int .i64 o.ord.item, Value.int .i64 o.ord.due, Value.int .i64 o.ord.qty, Value.int .i64 o.id, Value.int .i64 o.period, Value.int .i64 o.qty, Value.slice Aq nq cq] 31)) := ⟨_, rfl⟩
 have B0 := hide (show Later w W0 by rw [hW0]; exact (Later.refl _).alloc _)
 have HR0 := hide (show Row W0 w.heap.size 31 [.int .i64 o.kind, .int .i64 o.ord.id, .int .i64 o.ord.item, .int .i64 o.ord.due, .int .i64 o.ord.qty, .int .i64 o.id, .int .i64 o.period, .int .i64 o.qty, .slice Aq nq cq] by rw [hW0]; exact Row.new _ _ _)
 have HW0 := hide hW0
 clear hW0
 go_enter Tryz.func11, Tryz.ntmps11
 go_upto_region 1 with fail
 rw [<- HW0.out]
 have x8 := HR0.out.cell (i := 8) rfl
 have hu := HU.out
 go_wp2_with fail
 go_ret
 exact ⟨by first | rfl | (rw [<- HU.out]; simp; omega), B0.out⟩
end Go.Proofs.YtncbebfhakcgdaaGreat
namespace Go.Proofs.YtncbebfhakcgdaaGreat
open Go.RowKit Go.Shelf Go.ChangeShapes Go.WideShapes Go.Deep
section
variable {H : Type} {enc : TypeId × Value -> H} {w : World} {base : Nat} {spare : Nat -> Bool} {held : Bool}
theorem arg_op {r : Reach} {b0 : Nat} {v : Value} {d : DataW H} {p : List MemPlace} (hv : Value.okWide Tryz.prog w r b0 31 v) (h : DataW.Trod enc Tryz.prog w base spare held 31 v d p) : ArgOp w v := by
 obtain ⟨cs, rfl, hsz⟩ := okWide_struct Tryz.underlying31 hv
 obtain ⟨fuel, hf⟩ := h
 obtain ⟨p, e, hp⟩ := op_open hf
 obtain ⟨⟨A, n, c⟩, o⟩ := p
 obtain ⟨l⟩ := cs
 simp [Value.cells, opCells] at e
 subst e
 exact ⟨A, n, c, o, rfl, hp.1, hp.2.1, hp.2.2.1⟩
end
end Go.Proofs.YtncbebfhakcgdaaGreat
