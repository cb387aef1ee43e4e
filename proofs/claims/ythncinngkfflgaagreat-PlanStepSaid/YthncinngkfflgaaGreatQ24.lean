/- Books and plans that came in read as such, of whatever size; no slice of theirs is longer than what a machine can bear. -/
import Derived.Test.YthncinngkfflgaaGreatQ12
import Derived.Test.YthncinngkfflgaaGreatQ23
import Derived.SizedLaws
set_option linter.unusedVariables false
set_option linter.unusedSimpArgs false
set_option maxRecDepth 100000
namespace Go.Proofs.YthncinngkfflgaaGreat
open Go.RowKit Go.Shelf Go.ChangeShapes Go.WideShapes Go.Deep
section
variable {H : Type} {enc : TypeId × Value → H} {w : World} {base : Nat} {spare : Nat → Bool} {held : Bool}
/-- no slice of it weighs more than what a machine can bear -/
def Wt (P : Program) (t : TypeId) (d : DataW H) : Prop := ∀ n ∈ d.weights P t, n ≤ reachBytes
theorem Wt.all {P : Program} {e : TypeId} {l : List (DataW H)} (h : ∀ n ∈ DataW.weightsAll P e l, n ≤ reachBytes) {d : DataW H} (hd : d ∈ l) : Wt P e d := by
  induction l with
  | nil => cases hd
  | cons a l ih =>
    intro n hn
    rcases List.mem_cons.1 hd with rfl | hd
    · exact h n (by simp only [DataW.weightsAll, List.mem_append]; exact .inl hn)
    · exact ih (fun m hm => h m (by simp only [DataW.weightsAll, List.mem_append]; exact .inr hm)) hd n hn
theorem Wt.each {P : Program} {ts : List TypeId} {ds : List (DataW H)} (h : ∀ n ∈ DataW.weightsEach P ts ds, n ≤ reachBytes) {j : Nat} {t : TypeId} {d : DataW H} (ht : ts[j]? = some t) (hd : ds[j]? = some d) : Wt P t d :=
  fun n hn => h n (DataW.weights_mem_each ht hd n hn)
theorem Wt.struct {P : Program} {t : TypeId} {fs : Array Field} {ds : List (DataW H)} (hu : P.underlying t = some (.struct fs)) (h : Wt P t (.agg ds)) {j : Nat} {t' : TypeId} {d : DataW H} (ht : (fs.toList.map (·.type))[j]? = some t') (hd : ds[j]? = some d) : Wt P t' d := by
  unfold Wt at h
  simp only [DataW.weights, hu] at h
  exact Wt.each h ht hd
theorem Wt.slice {P : Program} {t e : TypeId} {es sp : List (DataW H)} (hu : P.underlying t = some (.slice e)) (h : Wt P t (.slice es sp)) : (es.length + sp.length) * P.bytesOf e ≤ reachBytes ∧ ∀ d ∈ es, Wt P e d := by
  unfold Wt at h
  simp only [DataW.weights, hu] at h
  refine ⟨h _ (List.mem_cons_self ..), fun d hd => Wt.all (fun n hn => h n (List.mem_cons_of_mem _ (List.mem_append.2 (.inl hn)))) hd⟩
theorem reach_val : reachBytes < 140737488355328 := by decide
theorem bytesU32 : Tryz.prog.bytesOf 133 = 4 := by kernel_rfl
theorem bytesI : Tryz.prog.bytesOf 3 = 8 := by kernel_rfl
theorem cellsItem : Tryz.prog.cellsOf 62 = 12 := by kernel_rfl
theorem cellsOrder : Tryz.prog.cellsOf 65 = 4 := by kernel_rfl
theorem cellsMake : Tryz.prog.cellsOf 67 = 3 := by kernel_rfl
theorem cellsBook : Tryz.prog.cellsOf 47 = 6 := by kernel_rfl
theorem cellsItems : Tryz.prog.cellsOf 42 = 1 := by kernel_rfl
theorem cellsOrders : Tryz.prog.cellsOf 44 = 1 := by kernel_rfl
theorem cellsMakes : Tryz.prog.cellsOf 45 = 1 := by kernel_rfl
theorem cellsII : Tryz.prog.cellsOf 3 = 1 := by kernel_rfl
theorem cellsIIs : Tryz.prog.cellsOf 43 = 1 := by kernel_rfl
theorem u32s_len {fuel : Nat} {cs : List Value} {y : DataW H × List MemPlace} (h : DataW.trod enc Tryz.prog w base spare held fuel 33 cs = some y) (hw : Wt Tryz.prog 33 y.1) {A : Option Addr} {n c : Nat} (e : cs = [.slice A n c]) : n ≤ 35184372088832 := by
  rcases open_ints Tryz.underlying33 Tryz.underlying133 cellsU32 h with ⟨rfl, -⟩ | ⟨a, n', c', zs, rfl, -, hl, hm, hz, rfl, hcell, hwf⟩
  · simp at e; omega
  · have h1 := (Wt.slice Tryz.underlying33 hw).1
    rw [bytesU32] at h1
    simp only [lits, List.length_map, List.length_take, List.length_drop] at h1
    simp at e
    have := reach_val
    have hnz : n' ≤ zs.length := by rw [hz]; split <;> omega
    omega
theorem int_len {fuel : Nat} {cs : List Value} {y : DataW H × List MemPlace} (h : DataW.trod enc Tryz.prog w base spare held fuel 35 cs = some y) (hw : Wt Tryz.prog 35 y.1) {s : Bool} {A : Option Addr} {n c : Nat} (e : cs = [.bool s, .slice A n c]) : n ≤ 35184372088832 := by
  obtain ⟨y0, y1, m, rfl, hlen, h0, h1⟩ := trod_struct2 Tryz.underlying35 h
  subst e
  simp only [cellsBool, cellsU32s, List.drop_zero, List.drop_succ_cons, List.take_succ_cons, List.take_zero] at h0 h1
  exact u32s_len h1 (Wt.struct (j := 1) Tryz.underlying35 hw rfl rfl) rfl
theorem rat_len {fuel : Nat} {cs : List Value} {y : DataW H × List MemPlace} (h : DataW.trod enc Tryz.prog w base spare held fuel 37 cs = some y) (hw : Wt Tryz.prog 37 y.1) {s s' : Bool} {A A' : Option Addr} {n c n' c' : Nat} (e : cs = [.bool s, .slice A n c, .bool s', .slice A' n' c']) : n ≤ 35184372088832 ∧ n' ≤ 35184372088832 := by
  obtain ⟨y0, y1, m, rfl, hlen, h0, h1⟩ := trod_struct2 Tryz.underlying37 h
  subst e
  simp only [cellsInt, List.drop_zero, List.drop_succ_cons, List.take_succ_cons, List.take_zero] at h0 h1
  exact ⟨int_len h0 (Wt.struct (j := 0) Tryz.underlying37 hw rfl rfl) rfl, int_len h1 (Wt.struct (j := 1) Tryz.underlying37 hw rfl rfl) rfl⟩
theorem item_open {fuel : Nat} {cs : List Value} {y : DataW H × List MemPlace} (h : DataW.trod enc Tryz.prog w base spare held fuel 62 cs = some y) (hw : Wt Tryz.prog 62 y.1) :
    ∃ e1 e2 e3 : ICells, ∃ x : PItem, cs = e1.cells ++ e2.cells ++ e3.cells ∧ EAnyF w (.agg #[.bool e1.a, .slice e1.A e1.n e1.c, .bool e1.a', .slice e1.A' e1.n' e1.c']) x.s x.sf ∧ EAnyF w (.agg #[.bool e2.a, .slice e2.A e2.n e2.c, .bool e2.a', .slice e2.A' e2.n' e2.c']) x.h x.hf ∧ EAnyF w (.agg #[.bool e3.a, .slice e3.A e3.n e3.c, .bool e3.a', .slice e3.A' e3.n' e3.c']) x.b x.bf := by
  obtain ⟨xs, m, -, rfl, hlen, hxl, hx⟩ := DataW.trod_struct Tryz.underlying62 h
  have h0 := hx 0 _ rfl; have h1 := hx 1 _ rfl; have h2 := hx 2 _ rfl
  rw [cellsItem] at hlen
  match cs, hlen, xs, hxl with
  | [c0, c1, c2, c3, c4, c5, c6, c7, c8, c9, c10, c11], _, [y0, y1, y2], _ =>
    simp only [List.getElem_toArray, List.getElem_cons_zero, List.getElem_cons_succ, List.getElem?_cons_zero, List.getElem?_cons_succ, cellsRat, List.drop_zero, List.drop_succ_cons, List.take_succ_cons, List.take_zero] at h0 h1 h2
    obtain ⟨s0, A0, n0, d0, s0', A0', n0', d0', q0, e0, g0⟩ := rat_open h0
    obtain ⟨s1, A1, n1, d1, s1', A1', n1', d1', q1, e1, g1⟩ := rat_open h1
    obtain ⟨s2, A2, n2, d2, s2', A2', n2', d2', q2, e2, g2⟩ := rat_open h2
    have l0 := rat_len h0 (Wt.struct (j := 0) Tryz.underlying62 hw rfl rfl) e0
    have l1 := rat_len h1 (Wt.struct (j := 1) Tryz.underlying62 hw rfl rfl) e1
    have l2 := rat_len h2 (Wt.struct (j := 2) Tryz.underlying62 hw rfl rfl) e2
    simp at e0 e1 e2
    obtain ⟨rfl, rfl, rfl, rfl⟩ := e0
    obtain ⟨rfl, rfl, rfl, rfl⟩ := e1
    obtain ⟨rfl, rfl, rfl, rfl⟩ := e2
    exact ⟨⟨s0, A0, n0, d0, s0', A0', n0', d0'⟩, ⟨s1, A1, n1, d1, s1', A1', n1', d1'⟩, ⟨s2, A2, n2, d2, s2', A2', n2', d2'⟩, ⟨q0, q1, q2, true, true, true⟩, rfl, ⟨_, _, _, _, _, _, _, _, rfl, g0, l0⟩, ⟨_, _, _, _, _, _, _, _, rfl, g1, l1⟩, ⟨_, _, _, _, _, _, _, _, rfl, g2, l2⟩⟩
theorem items_open {fuel : Nat} {cs : List Value} {y : DataW H × List MemPlace} (h : DataW.trod enc Tryz.prog w base spare held fuel 42 cs = some y) (hw : Wt Tryz.prog 42 y.1) :
    ∃ A n c, cs = [.slice A n c] ∧ ItsAny w A n c := by
  rcases open_slice Tryz.underlying42 h with ⟨rfl, -⟩ | ⟨a, n, c, m, f, D, Pl, rfl, -, hl, hm, hmm, rfl, hx⟩
  · exact ⟨_, _, _, rfl, Nat.le_refl _, by decide, fun i hi => by omega⟩
  · have hnm : n ≤ m := by rw [hmm]; split <;> omega
    have hwt := (Wt.slice Tryz.underlying42 hw).2
    rcases Nat.eq_zero_or_pos n with rfl | hpos
    · exact ⟨_, _, _, rfl, hl, hm, fun i hi => by omega⟩
    obtain ⟨b0, off0, spot⟩ := a
    obtain rfl : spot = none := by
      obtain ⟨cs, h1, h2⟩ := hx 0 (by omega)
      obtain ⟨e1, e2, e3, x, rfl, -⟩ := item_open h2 (hwt _ (List.mem_map.2 ⟨0, List.mem_range.2 hpos, rfl⟩))
      rw [cellsItem] at h1
      obtain ⟨-, -, h3⟩ := World.cells?_some h1
      have := World.cell?_spot (h3 0 (by omega))
      simpa [Addr.add] using this
    refine ⟨_, _, _, rfl, hl, hm, fun i hi => ?_⟩
    obtain ⟨cs, h1, h2⟩ := hx i (by omega)
    obtain ⟨e1, e2, e3, x, rfl, g1, g2, g3⟩ := item_open h2 (hwt _ (List.mem_map.2 ⟨i, List.mem_range.2 hi, rfl⟩))
    rw [cellsItem] at h1
    obtain ⟨-, -, h3⟩ := World.cells?_some h1
    have h4 : ∀ j (hj : j < 12), w.cell? ⟨b0, off0 + i * 12 + j, none⟩ = some ((e1.cells ++ e2.cells ++ e3.cells)[j]'(by simp [ICells.cells]; omega)) := fun j hj => by
      have h5 := h3 j hj
      simp only [add_plain] at h5
      rw [h5, List.getElem?_eq_getElem]
    exact ⟨x, b0, off0, rfl, e1, e2, e3, h4 0 (by omega), h4 1 (by omega), h4 2 (by omega), h4 3 (by omega), h4 4 (by omega), h4 5 (by omega), h4 6 (by omega), h4 7 (by omega), h4 8 (by omega), h4 9 (by omega), h4 10 (by omega), h4 11 (by omega), g1, g2, g3⟩
theorem wf_fit {z : Int} (h : (Lit.int .i64 z).wf = true) : IFit z := by
  have h3 : -9223372036854775808 ≤ z ∧ z ≤ 9223372036854775807 := by simpa [Lit.wf, IntKind.min, IntKind.max, IntKind.bits, IntKind.signed] using h
  unfold IFit; omega
theorem is_open {fuel : Nat} {cs : List Value} {y : DataW H × List MemPlace} (h : DataW.trod enc Tryz.prog w base spare held fuel 43 cs = some y) :
    ∃ A n c l, cs = [.slice A n c] ∧ Sq 1 iCells w (.slice A n c) l ∧ ∀ z ∈ l, IFit z := by
  rcases open_ints Tryz.underlying43 Tryz.underlying3 cellsII h with ⟨rfl, -⟩ | ⟨a, n, c, zs, rfl, -, hl, hm, hz, -, hcell, hwf⟩
  · exact ⟨_, _, _, [], rfl, Sq.nil _ _ _, by simp⟩
  · have hzl : n ≤ zs.length := by rw [hz]; split <;> omega
    refine ⟨_, _, _, zs.take n, rfl, ?_, fun z hz => wf_fit (hwf z (List.mem_of_mem_take hz))⟩
    refine ⟨some a, c, by simp [hzl], by simp; omega, hm, fun i x hi => ?_⟩
    have hin : i < n := by have := (List.getElem?_eq_some_iff.1 hi).1; simp at this; omega
    obtain ⟨b, off, spot⟩ := a
    have hs : spot = none := by simpa [Addr.add] using World.cell?_spot (hcell 0 (by omega))
    subst hs
    have h0 := hcell i (by omega)
    refine ⟨b, off, rfl, fun j u hj => ?_⟩
    have hj0 : j = 0 := by have := (List.getElem?_eq_some_iff.1 hj).1; simp [iCells] at this; omega
    subst hj0
    simp [iCells] at hj
    subst hj
    rw [add_plain] at h0
    rw [Nat.mul_one, Nat.add_zero, h0]
    rw [List.getElem?_take_of_lt hin] at hi
    rw [List.getD_eq_getElem?_getD, hi]; rfl
theorem is_len {fuel : Nat} {cs : List Value} {y : DataW H × List MemPlace} (h : DataW.trod enc Tryz.prog w base spare held fuel 43 cs = some y) (hw : Wt Tryz.prog 43 y.1) {A : Option Addr} {n c : Nat} (e : cs = [.slice A n c]) : n ≤ 35184372088832 := by
  rcases open_ints Tryz.underlying43 Tryz.underlying3 cellsII h with ⟨rfl, -⟩ | ⟨a, n', c', zs, rfl, -, hl, hm, hz, rfl, hcell, hwf⟩
  · simp at e; omega
  · have h1 := (Wt.slice Tryz.underlying43 hw).1
    rw [bytesI] at h1
    simp only [lits, List.length_map, List.length_take, List.length_drop] at h1
    simp at e
    have := reach_val
    have hnz : n' ≤ zs.length := by rw [hz]; split <;> omega
    omega
/-- a slice of records -/
theorem recs_open {α : Type} [Inhabited α] {t e : TypeId} {m : Nat} {en : α → List Value} {ok : α → Prop} (ht : Tryz.prog.underlying t = some (.slice e)) (hc : Tryz.prog.cellsOf e = m) (hm0 : 0 < m) (hlen : ∀ x, (en x).length = m)
    (hopen : ∀ {fuel : Nat} {cs : List Value} {y : DataW H × List MemPlace}, DataW.trod enc Tryz.prog w base spare held fuel e cs = some y → ∃ x, cs = en x ∧ ok x)
    {fuel : Nat} {cs : List Value} {y : DataW H × List MemPlace} (h : DataW.trod enc Tryz.prog w base spare held fuel t cs = some y) :
    ∃ A n c l, cs = [.slice A n c] ∧ Sq m en w (.slice A n c) l ∧ ∀ x ∈ l, ok x := by
  rcases open_slice ht h with ⟨rfl, -⟩ | ⟨a, n, c, k, f, D, Pl, rfl, -, hl, hm, hmm, -, hx⟩
  · exact ⟨_, _, _, [], rfl, Sq.nil _ _ _, by simp⟩
  · have hnm : n ≤ k := by rw [hmm]; split <;> omega
    rw [hc] at hx
    rcases Nat.eq_zero_or_pos n with rfl | hpos
    · exact ⟨_, _, _, [], rfl, ⟨some a, c, rfl, by simp, hm, fun i q hi => by simp at hi⟩, by simp⟩
    obtain ⟨b0, off0, spot⟩ := a
    obtain rfl : spot = none := by
      obtain ⟨cs, h1, h2⟩ := hx 0 (by omega)
      obtain ⟨x, rfl, -⟩ := hopen h2
      obtain ⟨-, -, h3⟩ := World.cells?_some h1
      have h5 := h3 0 hm0
      rw [List.getElem?_eq_getElem (by rw [hlen]; exact hm0)] at h5
      have := World.cell?_spot h5
      simpa [Addr.add] using this
    have key : ∀ i, i < n → ∃ x : α, ok x ∧ ∀ (j : Nat) u, (en x)[j]? = some u → w.cell? ⟨b0, off0 + i * m + j, none⟩ = some u := fun i hi => by
      obtain ⟨cs, h1, h2⟩ := hx i (by omega)
      obtain ⟨x, rfl, hok⟩ := hopen h2
      obtain ⟨-, -, h3⟩ := World.cells?_some h1
      refine ⟨x, hok, fun j u hj => ?_⟩
      have hjm := (List.getElem?_eq_some_iff.1 hj).1
      rw [hlen] at hjm
      have h5 := h3 j hjm
      simp only [add_plain] at h5
      rw [h5, hj]
    obtain ⟨Q, hQ⟩ := choose_lt (α := α) key
    refine ⟨_, _, _, (List.range n).map Q, rfl, ⟨some ⟨b0, off0, none⟩, c, by simp, by simpa using hl, hm, fun i q hi => ?_⟩, fun x hx => ?_⟩
    · have hin : i < n := by
        have := (List.getElem?_eq_some_iff.1 hi).1
        simpa using this
      simp [hin] at hi
      subst hi
      exact ⟨b0, off0, rfl, (hQ i hin).2⟩
    · obtain ⟨i, hi, rfl⟩ := List.mem_map.1 hx
      exact (hQ i (List.mem_range.1 hi)).1
instance : Inhabited POrd := ⟨⟨0, 0, 0, 0⟩⟩
instance : Inhabited PMk := ⟨⟨0, 0, 0⟩⟩
theorem ord_open {fuel : Nat} {cs : List Value} {y : DataW H × List MemPlace} (h : DataW.trod enc Tryz.prog w base spare held fuel 65 cs = some y) : ∃ o, cs = oCells o ∧ o.fit := by
  obtain ⟨xs, m, -, -, hlen, hxl, hx⟩ := DataW.trod_struct Tryz.underlying65 h
  have h0 := hx 0 _ rfl; have h1 := hx 1 _ rfl; have h2 := hx 2 _ rfl; have h3 := hx 3 _ rfl
  rw [cellsOrder] at hlen
  match cs, hlen, xs, hxl with
  | [c0, c1, c2, c3], _, [y0, y1, y2, y3], _ =>
    simp only [List.getElem_toArray, List.getElem_cons_zero, List.getElem_cons_succ, List.getElem?_cons_zero, List.getElem?_cons_succ, cellsII, List.drop_zero, List.drop_succ_cons, List.take_succ_cons, List.take_zero] at h0 h1 h2 h3
    obtain ⟨k0, e0, -, f0⟩ := DataW.trod_int Tryz.underlying3 h0
    obtain ⟨k1, e1, -, f1⟩ := DataW.trod_int Tryz.underlying3 h1
    obtain ⟨k2, e2, -, f2⟩ := DataW.trod_int Tryz.underlying3 h2
    obtain ⟨k3, e3, -, f3⟩ := DataW.trod_int Tryz.underlying3 h3
    simp at e0 e1 e2 e3
    subst e0 e1 e2 e3
    exact ⟨⟨k0, k1, k2, k3⟩, rfl, wf_fit f0, wf_fit f1, wf_fit f2, wf_fit f3⟩
theorem mk_open {fuel : Nat} {cs : List Value} {y : DataW H × List MemPlace} (h : DataW.trod enc Tryz.prog w base spare held fuel 67 cs = some y) : ∃ o, cs = mCells o ∧ o.fit := by
  obtain ⟨xs, m, -, -, hlen, hxl, hx⟩ := DataW.trod_struct Tryz.underlying67 h
  have h0 := hx 0 _ rfl; have h1 := hx 1 _ rfl; have h2 := hx 2 _ rfl
  rw [cellsMake] at hlen
  match cs, hlen, xs, hxl with
  | [c0, c1, c2], _, [y0, y1, y2], _ =>
    simp only [List.getElem_toArray, List.getElem_cons_zero, List.getElem_cons_succ, List.getElem?_cons_zero, List.getElem?_cons_succ, cellsII, List.drop_zero, List.drop_succ_cons, List.take_succ_cons, List.take_zero] at h0 h1 h2
    obtain ⟨k0, e0, -, f0⟩ := DataW.trod_int Tryz.underlying3 h0
    obtain ⟨k1, e1, -, f1⟩ := DataW.trod_int Tryz.underlying3 h1
    obtain ⟨k2, e2, -, f2⟩ := DataW.trod_int Tryz.underlying3 h2
    simp at e0 e1 e2
    subst e0 e1 e2
    exact ⟨⟨k0, k1, k2⟩, rfl, wf_fit f0, wf_fit f1, wf_fit f2⟩
theorem arg_book {r : Reach} {b0 : Nat} {v : Value} {d : DataW H} {p : List MemPlace} (hv : Value.okWide Tryz.prog w r b0 47 v) (h : DataW.Trod enc Tryz.prog w base spare held 47 v d p) (hw : Wt Tryz.prog 47 d) : ArgBook w v := by
  obtain ⟨cs, rfl, hsz⟩ := okWide_struct Tryz.underlying47 hv
  obtain ⟨fuel, hf⟩ := h
  obtain ⟨xs, m, -, hd, hlen, hxl, hx⟩ := DataW.trod_struct Tryz.underlying47 hf
  injection hd with hd _
  have h0 := hx 0 _ rfl; have h1 := hx 1 _ rfl; have h2 := hx 2 _ rfl; have h3 := hx 3 _ rfl; have h4 := hx 4 _ rfl; have h5 := hx 5 _ rfl
  rw [cellsBook] at hlen
  obtain ⟨l⟩ := cs
  match l, hlen, xs, hxl with
  | [c0, c1, c2, c3, c4, c5], _, [y0, y1, y2, y3, y4, y5], _ =>
    simp only [List.getElem_toArray, List.getElem_cons_zero, List.getElem_cons_succ, List.getElem?_cons_zero, List.getElem?_cons_succ, Value.cells, cellsItems, cellsII, cellsIIs, cellsOrders, cellsMakes, List.drop_zero, List.drop_succ_cons, List.take_succ_cons, List.take_zero] at h0 h1 h2 h3 h4 h5
    rw [hd] at hw
    obtain ⟨A1, n1, d1, e0, g0⟩ := items_open h0 (Wt.struct (j := 0) Tryz.underlying47 hw rfl rfl)
    obtain ⟨k1, e1, -, f1⟩ := DataW.trod_int Tryz.underlying3 h1
    obtain ⟨k2, e2, -, f2⟩ := DataW.trod_int Tryz.underlying3 h2
    obtain ⟨A2, n2, d2, caps, e3, g3, f3⟩ := is_open h3
    obtain ⟨A3, n3, d3, ords, e4, g4, f4⟩ := recs_open (en := oCells) (ok := POrd.fit) Tryz.underlying44 cellsOrder (by omega) (fun _ => rfl) (fun h => ord_open h) h4
    obtain ⟨A4, n4, d4, mks, e5, g5, f5⟩ := recs_open (en := mCells) (ok := PMk.fit) Tryz.underlying45 cellsMake (by omega) (fun _ => rfl) (fun h => mk_open h) h5
    simp at e0 e1 e2 e3 e4 e5
    subst e0 e1 e2 e3 e4 e5
    exact ⟨_, _, _, _, _, _, _, _, _, _, _, _, k1, k2, caps, ords, mks, rfl, g0, g3, g4, g5, wf_fit f1, wf_fit f2, f3, f4, f5⟩
theorem arg_grid {r : Reach} {b0 : Nat} {v : Value} {d : DataW H} {p : List MemPlace} (hv : Value.okWide Tryz.prog w r b0 54 v) (h : DataW.Trod enc Tryz.prog w base spare held 54 v d p) (hw : Wt Tryz.prog 54 d) : ArgGrid w v := by
  obtain ⟨A0, n0, c0, rfl⟩ := okWide_slice Tryz.underlying54 hv
  obtain ⟨fuel, hf⟩ := h
  rcases open_slice Tryz.underlying54 hf with ⟨e, -⟩ | ⟨a, n, c, m, f, D, Pl, e, -, hl, hm, hmm, hd, hx⟩
  · simp [Value.cells] at e
    obtain ⟨rfl, rfl, rfl⟩ := e
    exact ⟨none, 0, 0, [], rfl, ⟨none, 0, rfl, by simp, by decide, fun i q hi => by simp at hi⟩, by simp, by simp⟩
  · simp [Value.cells] at e
    obtain ⟨rfl, rfl, rfl⟩ := e
    injection hd with hd _
    rw [hd] at hw
    have hwt := (Wt.slice Tryz.underlying54 hw).2
    have hnm : n0 ≤ m := by rw [hmm]; split <;> omega
    rcases Nat.eq_zero_or_pos n0 with rfl | hpos
    · exact ⟨_, _, _, [], rfl, ⟨some a, c0, rfl, by simp, hm, fun i q hi => by simp at hi⟩, by simp, by simp⟩
    obtain ⟨b0, off0, spot⟩ := a
    obtain rfl : spot = none := by
      obtain ⟨cs, h1, h2⟩ := hx 0 (by omega)
      obtain ⟨A, n', c', l, rfl, hq⟩ := is_open h2
      rw [cellsIIs] at h1
      obtain ⟨-, -, h3⟩ := World.cells?_some h1
      have := World.cell?_spot (h3 0 (by omega))
      simpa [Addr.add] using this
    have key : ∀ i, i < n0 → ∃ row : List Int, ((∀ z ∈ row, IFit z) ∧ row.length ≤ 35184372088832) ∧ ∃ b off A' n' c', (some ⟨b0, off0, none⟩ : Option Addr) = some ⟨b, off, none⟩ ∧ w.cell? ⟨b, off + i, none⟩ = some (.slice A' n' c') ∧ Sq 1 iCells w (.slice A' n' c') row := fun i hi => by
      obtain ⟨cs, h1, h2⟩ := hx i (by omega)
      obtain ⟨A, n', c', l, rfl, hq, hfit⟩ := is_open h2
      have hll := is_len h2 (hwt _ (List.mem_map.2 ⟨i, List.mem_range.2 hi, rfl⟩)) rfl
      rw [cellsIIs] at h1
      obtain ⟨-, -, h3⟩ := World.cells?_some h1
      have h4 := h3 0 (by omega)
      simp only [add_plain, Nat.add_zero, Nat.mul_one] at h4
      exact ⟨l, ⟨hfit, by rw [← hq.len_]; exact hll⟩, b0, off0, A, n', c', rfl, h4, hq⟩
    obtain ⟨Q, hQ⟩ := choose_lt (α := List Int) key
    refine ⟨_, _, _, (List.range n0).map Q, rfl, ⟨some ⟨b0, off0, none⟩, c0, by simp, by simpa using hl, hm, fun i q hi => ?_⟩, fun r hr z hz => ?_, fun r hr => ?_⟩
    · have hin : i < n0 := by
        have := (List.getElem?_eq_some_iff.1 hi).1
        simpa using this
      simp [hin] at hi
      subst hi
      exact (hQ i hin).2
    · obtain ⟨i, hi, rfl⟩ := List.mem_map.1 hr
      exact (hQ i (List.mem_range.1 hi)).1.1 z hz
    · obtain ⟨i, hi, rfl⟩ := List.mem_map.1 hr
      exact (hQ i (List.mem_range.1 hi)).1.2
end
end Go.Proofs.YthncinngkfflgaaGreat

/- PlanMoves: with all a period on; the plain law and the walk. -/
set_option linter.unusedVariables false
set_option linter.unusedSimpArgs false
set_option maxRecDepth 100000
namespace Go.Proofs.YthncinngkfflgaaGreat
open Go.RowKit Go.Shelf
attribute [local go_sem ↓] Go.wp_at_zero Go.wp_at_succ

theorem info_po : (Tryz.prog.info? 65).map (fun i => (i.zero, i.size, i.bytes)) = some (some (.agg #[.int .i64 0, .int .i64 0, .int .i64 0, .int .i64 0]), 4, 32) := by kernel_rfl
theorem oCells_len (x : POrd) : (oCells x).length = 4 := rfl
theorem wpList_append_po {w : World} {ops : Array Oper} {rest : List Oper} {o : Oper} {a : Act} {Q : Exit → Act → World → Prop} (hgd : o.guard = none) (s x : Operand) (ho : o.op = .call { callee := .builtin .append, args := #[s, x], argTypes := #[44, 44] })
    {lo : Nat} {v : Value} {l : List POrd} {g : Nat} (z : POrd) (hs : a.eval s = v) (hown : w.ownsRow lo 65 4 v l.length (l.flatMap oCells)) (hx : a.eval x = .slice (some ⟨g, 0, none⟩) 1 1) (hrow : Row w g 65 (oCells z)) (hlen : l.length ≤ 3000000) (hbase : lo ≤ w.heap.size)
    (h : ∀ v' w', w'.ownsRow lo 65 4 v' (l ++ [z]).length ((l ++ [z]).flatMap oCells) → w.grownBy w' v.ownBlock → (v'.ownBlock = v.ownBlock ∨ v'.ownBlock = some w.heap.size) → wpList Tryz.prog ops Q rest (a.put o.dst v') w') : wpList Tryz.prog ops Q (o :: rest) a w := by
  refine wpList_append_src hgd s x _ ho lo 65 _ 4 32 Tryz.underlying44 info_po rfl (by omega) (by omega) v l.length _ hs hown _ 1 (oCells z) hx (Src.row hrow rfl (by simp [oCells, Value.oneCell'])) (by omega) hbase ?_
  intro v' w' k1 k2 k3
  refine h v' w' ?_ k2 k3
  rw [List.length_append, List.flatMap_append, List.flatMap_cons, List.flatMap_nil, List.append_nil]; exact k1

theorem info_pm : (Tryz.prog.info? 67).map (fun i => (i.zero, i.size, i.bytes)) = some (some (.agg #[.int .i64 0, .int .i64 0, .int .i64 0]), 3, 24) := by kernel_rfl
theorem mCells_len (x : PMk) : (mCells x).length = 3 := rfl
theorem wpList_append_pm {w : World} {ops : Array Oper} {rest : List Oper} {o : Oper} {a : Act} {Q : Exit → Act → World → Prop} (hgd : o.guard = none) (s x : Operand) (ho : o.op = .call { callee := .builtin .append, args := #[s, x], argTypes := #[45, 45] })
    {lo : Nat} {v : Value} {l : List PMk} {g : Nat} (z : PMk) (hs : a.eval s = v) (hown : w.ownsRow lo 67 3 v l.length (l.flatMap mCells)) (hx : a.eval x = .slice (some ⟨g, 0, none⟩) 1 1) (hrow : Row w g 67 (mCells z)) (hlen : l.length ≤ 3000000) (hbase : lo ≤ w.heap.size)
    (h : ∀ v' w', w'.ownsRow lo 67 3 v' (l ++ [z]).length ((l ++ [z]).flatMap mCells) → w.grownBy w' v.ownBlock → (v'.ownBlock = v.ownBlock ∨ v'.ownBlock = some w.heap.size) → wpList Tryz.prog ops Q rest (a.put o.dst v') w') : wpList Tryz.prog ops Q (o :: rest) a w := by
  refine wpList_append_src hgd s x _ ho lo 67 _ 3 24 Tryz.underlying45 info_pm rfl (by omega) (by omega) v l.length _ hs hown _ 1 (mCells z) hx (Src.row hrow rfl (by simp [mCells, Value.oneCell'])) (by omega) hbase ?_
  intro v' w' k1 k2 k3
  refine h v' w' ?_ k2 k3
  rw [List.length_append, List.flatMap_append, List.flatMap_cons, List.flatMap_nil, List.append_nil]; exact k1

/-- nothing appended, of a slice that holds nothing -/
theorem wpList_append_zero {P : Program} {w : World} {ops : Array Oper} {rest : List Oper} {o : Oper} {a : Act} {Q : Exit → Act → World → Prop} (hgd : o.guard = none) (s x : Operand) (t : TypeId)
    (ho : o.op = .call { callee := .builtin .append, args := #[s, x], argTypes := #[t, t] })
    (base : Nat) (e : TypeId) (i : TypeInfo) (size : Nat) (ht : P.underlying t = some (.slice e)) (hi : P.info? e = some i)
    (v : Value) (n c : Nat) (xs : List Value) (hs : a.eval s = v) (hown : w.ownsRow base e size v n xs) (hx : a.eval x = .slice none 0 c)
    (h : wpList P ops Q rest (a.put o.dst v) w) : wpList P ops Q (o :: rest) a w := by
  refine wpList_plain hgd fun K hK => ?_
  have hrun : (Builtin.append_ #[t, t] o.type #[v, .slice none 0 c]).run P w = .ok v w := by
    rcases hown.2 with ⟨rfl, rfl⟩ | ⟨g, cap, cur, rfl, _, _, hnc, _⟩
    · simp [Builtin.append_, run_underlying ht, sizeOf, typeInfo, hi, Builtin.lenOf, Builtin.firstCells]
    · simp [Builtin.append_, run_underlying ht, sizeOf, typeInfo, hi, Builtin.lenOf, Builtin.firstCells, hnc, storeCells]
  unfold Oper.wp
  simp [execOp, ho, resolve, invoke, builtin, hs, hx, hrun, Result.andThen]
  exact hK _ _ h
/-- whole numbers that came in, appended to whole numbers of one's own -/
theorem wpList_append_is {w : World} {ops : Array Oper} {rest : List Oper} {o : Oper} {a : Act} {Q : Exit → Act → World → Prop} (hgd : o.guard = none) (s x : Operand) (ho : o.op = .call { callee := .builtin .append, args := #[s, x], argTypes := #[43, 43] })
    {lo : Nat} {v : Value} {l : List Int} {A : Option Addr} {n c : Nat} {l' : List Int} (hs : a.eval s = v) (hown : w.ownsRow lo 3 1 v l.length (l.flatMap iCells)) (hx : a.eval x = .slice A n c) (hsq : Sq 1 iCells w (.slice A n c) l') (hlen : l.length + l'.length ≤ 3000000) (hbase : lo ≤ w.heap.size)
    (h : ∀ v' w', w'.ownsRow lo 3 1 v' (l ++ l').length ((l ++ l').flatMap iCells) → w.grownBy w' v.ownBlock → (v'.ownBlock = v.ownBlock ∨ v'.ownBlock = some w.heap.size) → wpList Tryz.prog ops Q rest (a.put o.dst v') w') : wpList Tryz.prog ops Q (o :: rest) a w := by
  have hn := hsq.len_
  have hlf : (l'.flatMap iCells).length = n * 1 := by
    have h9 : ∀ l : List Int, (l.flatMap iCells).length = l.length := by
      intro l
      induction l with
      | nil => rfl
      | cons a l ih => rw [List.flatMap_cons, List.length_append, ih]; simp [iCells]; omega
    rw [h9]; omega
  have hone : ∀ u ∈ l'.flatMap iCells, u.oneCell' = true := by
    intro u hu; obtain ⟨z, -, hz⟩ := List.mem_flatMap.1 hu; simp [iCells] at hz; subst hz; rfl
  cases A with
  | none =>
    have hl' : l' = [] := by
      cases l' with
      | nil => rfl
      | cons z l' => obtain ⟨b, off, e, -⟩ := hsq.at1 (i := 0) (x := z) rfl; cases e
    subst hl'
    obtain rfl : n = 0 := hn
    obtain ⟨i, hi, -⟩ := info_parts info_i1
    refine wpList_append_zero hgd s x _ ho lo 3 i 1 Tryz.underlying43 hi v l.length c _ hs hown hx ?_
    exact h v w (by simpa using hown) (World.grownBy.refl w _) (.inl rfl)
  | some ad =>
    refine wpList_append_src hgd s x _ ho lo 3 _ 1 8 Tryz.underlying43 info_i1 rfl (by omega) (by omega) v l.length _ hs hown _ n (l'.flatMap iCells) hx ⟨hlf, hone, .inr ⟨ad, c, rfl, fun j u hj => ?_⟩⟩ (by omega) hbase ?_
    · have hjl : j < l'.length := by
        have := (List.getElem?_eq_some_iff.1 hj).1
        omega
      obtain ⟨z, hz⟩ : ∃ z, l'[j]? = some z := ⟨l'[j], List.getElem?_eq_getElem _⟩
      obtain ⟨b, off, e, hc⟩ := hsq.at1 hz
      have h2 := flatMap_get iCells 1 iCells_len l' j 0 z hz (by omega)
      rw [Nat.mul_one, Nat.add_zero, hj] at h2
      injection e with e
      subst e
      rw [Go.WideShapes.add_plain, hc]
      exact h2.symm
    · intro v' w' k1 k2 k3
      refine h v' w' ?_ k2 k3
      rw [List.length_append, List.flatMap_append, ← hn]; exact k1

/-! ### the plain law -/
def mvO (o : POrd) : POrd := { o with due := o.due + 1 }
def mvM (x : PMk) : PMk := { x with period := x.period + 1 }
def mvD (D : PBook) : PBook := { D with now := D.now + 1, caps := 0 :: D.caps, ords := D.ords.map mvO, mks := D.mks.map mvM }
section
variable {D : PBook} (h : mayB D = true) (h' : mayB (mvD D) = true)
include h h'
end

end Go.Proofs.YthncinngkfflgaaGreat

/- Plans: tools for the last walks. -/
set_option linter.unusedVariables false
set_option linter.unusedSimpArgs false
set_option maxRecDepth 100000
namespace Go.Proofs.YthncinngkfflgaaGreat
open Go.RowKit Go.Shelf
attribute [local go_sem ↓] Go.wp_at_zero Go.wp_at_succ

theorem Row.new_ {w : World} {t : TypeId} {cs : List Value} {g : Nat} (hg : w.heap.size = g) : Row (w.alloc (.cells cs.toArray t)) g t cs := by subst hg; exact Row.new _ _ _
theorem ownsRow_other {w w' : World} {B g : Nat} {e T : TypeId} {size n : Nat} {v : Value} {xs cs : List Value} (h : w.ownsRow B e size v n xs) (o : Only g w w') (r : Row w g T cs) (hT : T ≠ e) : w'.ownsRow B e size v n xs := by
  obtain ⟨h2, h3⟩ := h
  refine ⟨h2, ?_⟩
  rcases h3 with h3 | ⟨k, cap, cur, hv, hb, hg, rest⟩
  · exact .inl h3
  · refine .inr ⟨k, cap, cur, hv, hb, ?_, rest⟩
    refine (o.block k (fun ek => ?_)).trans hg
    subst ek
    rw [r] at hg
    injection hg with hg; injection hg with _ hg _
    exact hT hg
theorem OwnR.other {w w' : World} {B g : Nat} {v : Value} {q : Rat} {cs : List Value} (h : OwnR w B v q) (o : Only g w w') (r : Row w g 37 cs) : OwnR w' B v q := by
  obtain ⟨A, n, c, A', n', c', e, h1, h2⟩ := h
  have hT : 37 ≠ 133 := by decide
  exact ⟨A, n, c, A', n', c', e, ⟨h1.1, ownsRow_other h1.2 o r hT⟩, ⟨h2.1, ownsRow_other h2.2 o r hT⟩⟩
theorem grid_two {w : World} {g : Nat} {T : TypeId} {A A' : Option Addr} {n n' c c' : Nat} {a b : List Int} (hr : Row w g T [.slice A n c, .slice A' n' c']) (ha : Sq 1 iCells w (.slice A n c) a) (hb : Sq 1 iCells w (.slice A' n' c') b) (la : a.length ≤ 1000) (lb : b.length ≤ 1000)
    (fa : ∀ z ∈ a, -9223372036854775808 ≤ z ∧ z < 9223372036854775808) (fb : ∀ z ∈ b, -9223372036854775808 ≤ z ∧ z < 9223372036854775808) : GridIn w (.slice (some ⟨g, 0, none⟩) 2 2) [a, b] := by
  refine ⟨⟨_, 2, rfl, Nat.le_refl _, by decide, fun i row hi => ?_⟩, by simp, fun r hr => ?_, fun r hr => ?_⟩
  · rcases (by omega : i = 0 ∨ i = 1 ∨ 2 ≤ i) with e | e | e
    · subst e; injection hi with hi; subst hi; exact ⟨g, 0, A, n, c, rfl, hr.cell rfl, ha⟩
    · subst e; injection hi with hi; subst hi; exact ⟨g, 0, A', n', c', rfl, hr.cell rfl, hb⟩
    · rw [List.getElem?_eq_none (by show 2 ≤ i; exact e)] at hi; cases hi
  · simp at hr; rcases hr with rfl | rfl <;> assumption
  · simp at hr; rcases hr with rfl | rfl <;> assumption
end Go.Proofs.YthncinngkfflgaaGreat
