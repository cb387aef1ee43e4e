import Derived.Test.YthncinngkfflgaaGreatM38
import Derived.Test.YthncinngkfflgaaGreatM17

/- CertScaled: the walk. -/
set_option linter.unusedVariables false
set_option linter.unusedSimpArgs false
set_option maxRecDepth 100000
namespace Go.Proofs.YthncinngkfflgaaGreat
open Go.RowKit Go.Shelf
attribute [local go_sem ↓] Go.wp_at_zero Go.wp_at_succ

theorem div1 (n : Int) : Rat.divInt n 1 = (n : Rat) := by
  have h := Rat.divInt_ofNat n 1
  have e : ((1 : Nat) : Int) = 1 := rfl
  rw [e] at h
  rw [h]
  exact Rat.mkRat_one n
end Go.Proofs.YthncinngkfflgaaGreat


/- Rows appended to one's own, beside others; problems whose numbers all may be. -/
set_option linter.unusedVariables false
set_option linter.unusedSimpArgs false
set_option maxRecDepth 100000
namespace Go.Proofs.YthncinngkfflgaaGreat
open Go.RowKit Go.Shelf

theorem own_at2 (w : World) (e : TypeId) (size : Nat) {g lo : Nat} (hg : g = w.heap.size) (hlo : lo ≤ w.heap.size) : (w.alloc (Obj.cells #[] e)).ownsRow lo e size (.slice (some ⟨g, 0, none⟩) 0 0) 0 [] := by
  rw [hg]; exact ownsRow_weaken (own_empty w e size) hlo
def Agree (w W : World) : Prop := ∀ b, b < w.heap.size → W.heap[b]? = w.heap[b]?
theorem cell_agree {w W : World} {a : Addr} {u : Value} (h : w.cell? a = some u) (ha : Agree w W) : W.cell? a = some u :=
  (World.cell?_of_block (a := a) (ha a.block (World.block_lt_of_cell? w _ h))).trans h
theorem rats_agreeE {E : Elem} (hE : ∀ w W v q, E w v q → Agree w W → E W v q) {w W : World} {v : Value} {l : List Rat} (h : Rats E w v l) (ha : Agree w W) : Rats E W v l := by
  obtain ⟨A, c, e, h1, h2, h3⟩ := h
  refine ⟨A, c, e, h1, h2, fun i q hi => ?_⟩
  obtain ⟨b, off, s, A1, n1, c1, s', A2, n2, c2, hA, x1, x2, x3, x4, hq⟩ := h3 i q hi
  exact ⟨b, off, s, A1, n1, c1, s', A2, n2, c2, hA, cell_agree x1 ha, cell_agree x2 ha, cell_agree x3 ha, cell_agree x4 ha, hE _ _ _ _ hq ha⟩
/-- a number that is small, and may be if so told -/
def EM (bm : Bool) : Elem := fun w v q => RawR w v q 1 ∧ (bm = true → EFlag w v 1)
theorem EM.agree (bm : Bool) (w W : World) (v : Value) (q : Rat) (h : EM bm w v q) (ha : Agree w W) : EM bm W v q := by
  refine ⟨rawR_agree h.1 ha, fun hb => ?_⟩
  obtain ⟨a, A, n, c, b, A', n', c', y, e, h1, h2⟩ := h.2 hb
  exact ⟨a, A, n, c, b, A', n', c', y, e, rawI_agree h1 ha, h2⟩
theorem On.base {w : World} {T : World → Prop} (h : ∀ W, Agree w W → T W) : On w (fun b => b < w.heap.size) T := ⟨fun b => b < w.heap.size, fun b hb => ⟨hb, hb⟩, fun W hW => h W hW⟩

theorem OutRats.grown {E : Elem} {w w' : World} {P : Nat → Prop} {lo : Nat} {v : Value} {l : List Rat} {r : Option Nat} (h : OutRats E w P lo v l) (hg : w.grownBy w' r) (hne : ∀ k, v.ownBlock = some k → some k ≠ r) (hP : ∀ b, P b → some b ≠ r) : OutRats E w' P lo v l := by
  obtain ⟨es, h1, h2, h3, h4⟩ := h
  exact ⟨es, h1, ownsRow_grown h2 hg hne, h3, h4.grown hg fun b hb _ => hP b hb.1⟩
theorem OutTab.grown {E : Elem} {w w' : World} {P : Nat → Prop} {lo : Nat} {v : Value} {t : List (List Rat)} {r : Option Nat} (h : OutTab E w P lo v t) (hg : w.grownBy w' r) (hne : ∀ k, v.ownBlock = some k → some k ≠ r) (hP : ∀ b, P b → some b ≠ r) : OutTab E w' P lo v t := by
  obtain ⟨es, h1, h2, h3, h4⟩ := h
  exact ⟨es, h1, ownsRow_grown h2 hg hne, h3, h4.grown hg fun b hb _ => hP b hb.1⟩
section
variable {w w0 : World} {o : Oper} {a : Act} {K : Act → World → Prop} {Q : Exit → Act → World → Prop}
theorem wp_append_tab4 (s x : Operand) (ho : o.op = .call { callee := .builtin .append, args := #[s, x], argTypes := #[22, 22] })
    {E : Elem} (hE : ∀ w W v q, E w v q → Agree w W → E W v q) {v vt : Value} {t : List (List Rat)} (hs : a.eval s = v) (hown : w.ownsRow w0.heap.size 23 1 v 0 []) (hx : a.eval x = vt)
    (h0 : Tab E w0 vt t) (hL : Later w0 w) (hpos : 0 < t.length) (hlen : t.length ≤ 1000000000)
    (h : ∀ v' w', OutTab E w' (fun b => b < w0.heap.size) w0.heap.size v' t → w.grownBy w' v.ownBlock → (v'.ownBlock = v.ownBlock ∨ v'.ownBlock = some w.heap.size) → K (a.put o.dst v') w') : o.wp Tryz.prog a w K Q := by
  obtain ⟨A, n, c, rfl, hn, -⟩ := h0.form
  obtain ⟨es, h1, h3, h4, h6⟩ := h0.list hpos
  obtain ⟨h4a, h4b, h4c⟩ := h4.later hL
  obtain ⟨ad, c2, e5, h4d⟩ : ∃ ad c2, Value.slice A n c = .slice (some ad) n c2 ∧ ∀ j u, es[j]? = some u → w.cell? (ad.add j) = some u := by
    rcases h4c with ⟨e5, h0⟩ | h
    · omega
    · exact h
  rw [e5] at hx
  refine wp_append_own_ s x _ ho w0.heap.size 23 (.slice none 0 0) 1 24 Tryz.underlying22 info_row rfl (by omega) (by omega) v 0 [] hs hown ad n c2 es hx h4a h4d h4b (by omega) hL.size_le ?_
  intro v' w' k1 k2 k3
  rw [Nat.zero_add, List.nil_append, hn] at k1
  have hlt := World.ownsRow.lt k1
  have hvl := World.ownsRow.lt hown
  refine h v' w' ⟨es, h1, k1, h3, ?_⟩ k2 k3
  have h5 : On w0 (fun b => b < w0.heap.size) (fun W => ∀ (i : Nat) (e : Value) (row : List Rat), es[i]? = some e → t[i]? = some row → Rats E W e row) := On.base fun W hW i e row hi hr => rats_agreeE hE (h6 i e row hi hr) hW
  exact (h5.later hL).beside k2 fun b hb hlt2 => ⟨fun e => by have := (hvl b e.symm).1; omega, hb, fun e => by have := (hlt b e.symm).1; omega⟩
theorem wp_append_rats4 (s x : Operand) (ho : o.op = .call { callee := .builtin .append, args := #[s, x], argTypes := #[23, 23] })
    {E : Elem} (hE : ∀ w W v q, E w v q → Agree w W → E W v q) {v vt : Value} {l : List Rat} (hs : a.eval s = v) (hown : w.ownsRow w0.heap.size 37 4 v 0 []) (hx : a.eval x = vt)
    (h0 : Rats E w0 vt l) (hL : Later w0 w) (hpos : 0 < l.length) (hlen : l.length ≤ 1000000000)
    (h : ∀ v' w', OutRats E w' (fun b => b < w0.heap.size) w0.heap.size v' l → w.grownBy w' v.ownBlock → (v'.ownBlock = v.ownBlock ∨ v'.ownBlock = some w.heap.size) → K (a.put o.dst v') w') : o.wp Tryz.prog a w K Q := by
  obtain ⟨A, n, c, rfl, hn, -⟩ := h0.form
  obtain ⟨b, off, rfl⟩ : ∃ b off, A = some ⟨b, off, none⟩ := by
    obtain ⟨b, off, _, _, _, _, _, _, _, _, e, -⟩ := h0.at_ (List.getElem?_eq_getElem hpos)
    exact ⟨b, off, e⟩
  obtain ⟨es, h1, h3, h4, h6⟩ := h0.list hn
  obtain ⟨h4a, h4b, h4c⟩ := h4.later hL
  obtain ⟨ad, c2, e5, h4d⟩ : ∃ ad c2, Value.slice (some ⟨b, off, none⟩) n c = .slice (some ad) n c2 ∧ ∀ j u, (es.flatMap fun (e : Bool × Value × Bool × Value) => [Value.bool e.1, e.2.1, Value.bool e.2.2.1, e.2.2.2])[j]? = some u → w.cell? (ad.add j) = some u := by
    rcases h4c with ⟨e5, h0⟩ | h
    · omega
    · exact h
  rw [e5] at hx
  refine wp_append_own_ s x _ ho w0.heap.size 37 (.agg #[.bool false, .slice none 0 0, .bool false, .slice none 0 0]) 4 64 Tryz.underlying23 info_rat rfl (by omega) (by omega) v 0 [] hs hown ad n c2 _ hx h4a h4d h4b (by omega) hL.size_le ?_
  intro v' w' k1 k2 k3
  rw [Nat.zero_add, List.nil_append, hn] at k1
  have hlt := World.ownsRow.lt k1
  have hvl := World.ownsRow.lt hown
  refine h v' w' ⟨es, h1, k1, h3, ?_⟩ k2 k3
  have h5 : On w0 (fun b => b < w0.heap.size) (fun W => ∀ (i : Nat) (e : Bool × Value × Bool × Value) (q : Rat), es[i]? = some e → l[i]? = some q → E W (.agg #[.bool e.1, e.2.1, .bool e.2.2.1, e.2.2.2]) q) := On.base fun W hW i e q hi hq => hE _ _ _ _ (h6 i e q hi hq) hW
  exact (h5.later hL).beside k2 fun b hb hlt2 => ⟨fun e => by have := (hvl b e.symm).1; omega, hb, fun e => by have := (hlt b e.symm).1; omega⟩
end
theorem wpList_append_rats4 {w w0 : World} {ops : Array Oper} {rest : List Oper} {o : Oper} {a : Act} {Q : Exit → Act → World → Prop} (hgd : o.guard = none) (s x : Operand) (ho : o.op = .call { callee := .builtin .append, args := #[s, x], argTypes := #[23, 23] })
    {E : Elem} (hE : ∀ w W v q, E w v q → Agree w W → E W v q) {v vt : Value} {l : List Rat} (hs : a.eval s = v) (hown : w.ownsRow w0.heap.size 37 4 v 0 []) (hx : a.eval x = vt)
    (h0 : Rats E w0 vt l) (hL : Later w0 w) (hpos : 0 < l.length) (hlen : l.length ≤ 1000000000)
    (h : ∀ v' w', OutRats E w' (fun b => b < w0.heap.size) w0.heap.size v' l → w.grownBy w' v.ownBlock → (v'.ownBlock = v.ownBlock ∨ v'.ownBlock = some w.heap.size) → wpList Tryz.prog ops Q rest (a.put o.dst v') w') : wpList Tryz.prog ops Q (o :: rest) a w :=
  wpList_plain hgd fun K hK => wp_append_rats4 s x ho hE hs hown hx h0 hL hpos hlen fun v' w' h1 h2 h3 => hK _ _ (h v' w' h1 h2 h3)
theorem Only.grownBy2 {g : Nat} {w w' : World} (o : Only g w w') : w.grownBy w' (some g) := ⟨o.os, o.tape, o.output, by rw [o.size]; exact Nat.le_refl _, fun b hb hne => o.block b (fun e => hne (by rw [e]))⟩
/-- blocks apart -/
def Apart (o1 o2 : Option Nat) : Prop := ∀ k, o1 = some k → o2 ≠ some k
theorem Apart.symm {o1 o2 : Option Nat} (h : Apart o1 o2) : Apart o2 o1 := fun k h2 h1 => h k h1 h2
theorem Apart.ne2 {o1 o2 : Option Nat} (h : Apart o1 o2) : ∀ k, o1 = some k → some k ≠ o2 := fun k hk e => h k hk e.symm
theorem Apart.ne1 {o1 o2 : Option Nat} (h : Apart o1 o2) : ∀ k, o2 = some k → some k ≠ o1 := fun k hk e => h k e.symm hk
theorem apart_new {o : Option Nat} {n : Nat} (h : ∀ k, o = some k → k < n) : Apart o (some n) := fun k hk e => by
  have := h k hk
  injection e with e
  omega
theorem Apart.step {o o' x : Option Nat} {n : Nat} (h : Apart o x) (hb : o' = o ∨ o' = some n) (hx : ∀ k, x = some k → k < n) : Apart o' x := by
  rcases hb with rfl | rfl
  · exact h
  · exact (apart_new hx).symm
theorem lt_of2 {o : Option Nat} {lo n : Nat} (h : ∀ k, o = some k → lo ≤ k ∧ k < n) : ∀ k, o = some k → k < n := fun k hk => (h k hk).2
theorem lt_row {w : World} {g : Nat} {t : TypeId} {cs : List Value} (h : Row w g t cs) : ∀ k, some g = some k → k < w.heap.size := fun k hk => by injection hk with hk; subst hk; exact h.lt
theorem base_ne {o : Option Nat} {lo n : Nat} (h : ∀ k, o = some k → lo ≤ k ∧ k < n) : ∀ b, b < lo → some b ≠ o := fun b hb e => by have := (h b e.symm).1; omega
theorem base_le {o : Option Nat} {lo n : Nat} (h : ∀ k, o = some k → lo ≤ k ∧ k < n) : ∀ k, o = some k → lo ≤ k := fun k hk => (h k hk).1
theorem anyN_name {P : Program} {md : Region.Mode} {ops : Array Oper} {Q : Exit → Act → World → Prop} {S : World → Prop} {nf : List Nat} {fuel : Nat} {listed : Array Bool} {a : Act} {w : World} (f2 : Nat) (hf : fuel = f2) (l2 : Array Bool) (hl : listed = l2)
    (h : ∀ G : Nat → Array Bool → Act → World → Prop, Hid (∀ f l a w, G f l a w → wpAnyN P md ops Q S nf f l a w) → Hid (∀ f l a w, wpAnyN P md ops Q S nf f l a w → G f l a w) → ∀ a0, Hid (a0 = a) → G f2 l2 a0 w) : wpAnyN P md ops Q S nf fuel listed a w := by
  subst hf hl
  exact h _ (hide fun _ _ _ _ h => h) (hide fun _ _ _ _ h => h) a (hide rfl)
/-- flags that are all there -/
theorem rats_may {w : World} {v : Value} {l fl : List Rat} {k : Nat} (h : Rats (ERaw 1) w v l) (g : Rats EFlag w v fl) (bm : Bool) (hf : bm = true → allF fl = true) : Rats (EM bm) w v l := by
  obtain ⟨A, n, c, rfl, hn, hc1, hc2, h'⟩ := h.form
  have hn2 : n = fl.length := g.len_
  refine ⟨A, c, by rw [hn], by omega, hc2, fun i q hi => ?_⟩
  obtain ⟨b, off, s, A1, n1, c1, s', A2, n2, c2, rfl, x1, x2, x3, x4, hq⟩ := h'.at_ hi
  have hil : i < fl.length := by have := (List.getElem?_eq_some_iff.1 hi).1; omega
  obtain ⟨b', off', t, B1, m1, d1, t', B2, m2, d2, e, y1, y2, y3, y4, gq⟩ := g.at_ (List.getElem?_eq_getElem hil)
  injection e with e
  injection e with e1 e2 e3
  subst e1 e2
  rw [x1] at y1; rw [x2] at y2; rw [x3] at y3; rw [x4] at y4
  injection y1 with y1; injection y1 with y1
  injection y2 with y2; injection y2 with z1 z2 z3
  injection y3 with y3; injection y3 with y3
  injection y4 with y4; injection y4 with z4 z5 z6
  subst y1 z1 z2 z3 y3 z4 z5 z6
  refine ⟨b, off, s, A1, n1, c1, s', A2, n2, c2, rfl, x1, x2, x3, x4, hq, fun hb => ?_⟩
  have hm := hf hb
  unfold allF at hm
  rw [List.all_eq_true] at hm
  have h9 := hm _ (List.getElem_mem hil)
  obtain ⟨a, A, n, c, b2, A', n', c', y, e, r1, r2⟩ := gq
  refine ⟨a, A, n, c, b2, A', n', c', y, e, r1, ?_⟩
  by_cases hy : 0 < y
  · rw [if_pos hy]
  · rw [r2, if_neg hy] at h9; simp at h9
theorem tab_may {w : World} {v : Value} {t ft : List (List Rat)} (h : Tab (ERaw 1) w v t) (g : Tab EFlag w v ft) (bm : Bool) (hf : bm = true → allFF ft = true) : Tab (EM bm) w v t := by
  obtain ⟨A, n, c, rfl, hn, hc1, hc2, h'⟩ := h.form
  have hn2 : n = ft.length := by obtain ⟨_, _, _, e, e2, -, -, -⟩ := g.form; injection e with _ e _; rw [e, e2]
  refine ⟨A, c, by rw [hn], by omega, hc2, fun i row hi => ?_⟩
  obtain ⟨b, off, A', n', c', rfl, x1, hr⟩ := h'.at_ hi
  have hil : i < ft.length := by have := (List.getElem?_eq_some_iff.1 hi).1; omega
  obtain ⟨b', off', A'', n'', c'', e, y1, gr⟩ := g.at_ (List.getElem?_eq_getElem hil)
  injection e with e
  injection e with e1 e2 e3
  subst e1 e2
  rw [x1] at y1
  injection y1 with y1; injection y1 with z1 z2 z3
  subst z1 z2 z3
  refine ⟨b, off, A', n', c', rfl, x1, rats_may (k := 1) hr gr bm fun hb => ?_⟩
  have hm := hf hb
  unfold allFF at hm
  rw [List.all_eq_true] at hm
  exact hm _ (List.getElem_mem hil)
theorem rats_em_flags {w : World} {v : Value} {l : List Rat} (h : Rats (EM true) w v l) : Rats EFlag w v (List.replicate l.length 1) := by
  obtain ⟨A, c, e, h1, h2, h3⟩ := h
  refine ⟨A, c, by simpa using e, by simpa using h1, h2, fun i q hi => ?_⟩
  rw [List.getElem?_replicate] at hi
  split at hi
  · rename_i hin
    injection hi with hi; subst hi
    obtain ⟨b, off, s, A1, n1, c1, s', A2, n2, c2, hA, x1, x2, x3, x4, hE⟩ := h3 i _ (List.getElem?_eq_getElem hin)
    exact ⟨b, off, s, A1, n1, c1, s', A2, n2, c2, hA, x1, x2, x3, x4, hE.2 rfl⟩
  · cases hi
theorem tab_em_flags {w : World} {v : Value} {t : List (List Rat)} (h : Tab (EM true) w v t) : Tab EFlag w v (t.map fun r => List.replicate r.length 1) := by
  obtain ⟨A, c, e, h1, h2, h3⟩ := h
  refine ⟨A, c, by simpa using e, by simpa using h1, h2, fun i row hi => ?_⟩
  rw [List.getElem?_map] at hi
  cases ht : t[i]? with
  | none => rw [ht] at hi; cases hi
  | some r =>
    rw [ht] at hi
    injection hi with hi
    subst hi
    obtain ⟨b, off, A', n', c', hA, x1, hr⟩ := h3 i r ht
    exact ⟨b, off, A', n', c', hA, x1, rats_em_flags hr⟩
/-- the parts of a problem all of whose numbers may be -/
theorem std_parts {w : World} {vA vB vC : Value} {A : List (List Rat)} {B C : List Rat} {ok : Bool} (h : StdIn w vA vB vC 1 A B C ok) (ho : ok = true) (bm : Bool) :
    Tab (EM bm) w vA A ∧ Rats (EM bm) w vB B ∧ Rats (EM true) w vC C := by
  obtain ⟨fA, fB, fC, h1, h2, h3, h4, h5, h6, rfl, -⟩ := h
  simp only [Bool.and_eq_true] at ho
  exact ⟨tab_may h1 h4 bm fun _ => ho.1, rats_may (k := 1) h2 h5 bm fun _ => ho.2.1, rats_may (k := 1) h3 h6 true fun _ => ho.2.2⟩
theorem std_em {w : World} {vA vB vC : Value} {A : List (List Rat)} {B C : List Rat} (ha : Tab (EM true) w vA A) (hb : Rats (EM true) w vB B) (hc : Rats (EM true) w vC C)
    (l1 : A.length ≤ 1000) (l2 : ∀ r ∈ A, r.length ≤ 1000) (l3 : B.length ≤ 1000) (l4 : C.length ≤ 1000) : StdIn w vA vB vC 1 A B C true := by
  refine ⟨_, _, _, ha.map (fun row hr v q hq he => he.1), hb.map (fun v q hq he => he.1), hc.map (fun v q hq he => he.1), tab_em_flags ha, rats_em_flags hb, rats_em_flags hc, ?_, by omega, l2, ?_, l1, l3, l4⟩
  · rw [allF_ones, allF_ones]
    have : allFF (A.map fun r => List.replicate r.length 1) = true := by
      unfold allFF
      rw [List.all_eq_true]
      intro r hr
      obtain ⟨q, -, rfl⟩ := List.mem_map.1 hr
      exact allF_ones _
    rw [this]; rfl
  · intro r hr
    obtain ⟨q, hq, rfl⟩ := List.mem_map.1 hr
    rw [List.length_replicate]; exact l2 q hq
/-- all but the first -/
theorem rats_tail {E : Elem} {w : World} {b off n c : Nat} {x : Rat} {l : List Rat} (h : Rats E w (.slice (some ⟨b, off, none⟩) n c) (x :: l)) : Rats E w (.slice (some ⟨b, off + 4, none⟩) (n - 1) (c - 1)) l := by
  obtain ⟨A, n', c', e, hn, hc1, hc2, h'⟩ := h.form
  injection e with e1 e2 e3
  subst e1 e2 e3
  rw [List.length_cons] at hn
  refine ⟨_, _, by rw [hn]; rfl, by omega, by omega, fun i q hi => ?_⟩
  obtain ⟨b', off', s, A1, n1, c1, s', A2, n2, c2, e, x1, x2, x3, x4, hq⟩ := h'.at_ (i := i + 1) (q := q) (by simpa using hi)
  injection e with e
  injection e with e1 e2 e3
  subst e1 e2
  have e9 : off + (i + 1) * 4 = off + 4 + i * 4 := by omega
  rw [e9] at x1 x2 x3 x4
  exact ⟨b, off + 4, s, A1, n1, c1, s', A2, n2, c2, rfl, x1, x2, x3, x4, hq⟩
end Go.Proofs.YthncinngkfflgaaGreat
