import Derived.Test.YthncinngkfflgaaGreatM15
import Derived.Test.YthncinngkfflgaaGreatM17
import Derived.Test.YthncinngkfflgaaGreatM20

/- Standard forms: ContainsFunc of numbers, and whether numbers may be. -/
set_option linter.unusedVariables false
set_option linter.unusedSimpArgs false
set_option maxRecDepth 100000
namespace Go.Proofs.YthncinngkfflgaaGreat
open Go.RowKit Go.Shelf
attribute [local go_sem ↓] Go.wp_at_zero Go.wp_at_succ

theorem Rats.len_ {E : Elem} {w : World} {A : Option Addr} {n c : Nat} {l : List Rat} (h : Rats E w (.slice A n c) l) : n = l.length := by
  obtain ⟨_, _, _, e0, e1, -⟩ := h.form
  injection e0 with _ e0 _
  rw [e0, e1]
/-- the first place where p is so; -1: nowhere -/
def FirstR (p : Rat → Bool) (l : List Rat) (z : Int) : Prop := (z = -1 ∧ ∀ x ∈ l, p x = false) ∨ ∃ (i : Nat) (x : Rat), z = i ∧ l[i]? = some x ∧ p x = true ∧ ∀ j r, j < i → l[j]? = some r → p r = false
set_option maxHeartbeats 2000000 in
theorem idxq_calls (w : World) (v : Value) (l : List Rat) (E : Elem) (hE : ∀ w w' v q, E w v q → Later w w' → E w' v q) (h : Rats E w v l) (hl : l.length ≤ 1000000000) (f : FuncId) (hf : Enters f) (p : Rat → Bool)
    (hp : ∀ W xv x, Later w W → E W xv x → x ∈ l → Calls Tryz.prog f #[xv] W (RetV W (.bool (p x)))) :
    Calls Tryz.prog 158 #[v, .func (.func f) #[] #[]] w (RetZ w (FirstR p l)) := by
  have H := hide h; have HP := hide hp
  have hen := hf.out
  obtain ⟨A0, nt, ct, rfl, hnt, -⟩ := h.form
  have HNT := hide hnt
  have hn9 : nt ≤ 1000000000 := by omega
  clear h hp hnt hl
  go_enter Tryz.func158, Tryz.ntmps158
  go_wp2_with fail
  go_loopw [8] (fun i wr => ∃ j : Nat, j ≤ nt ∧ i = .int .i64 (j : Int) ∧ Hid (∀ i r, i < j → l[i]? = some r → p r = false) ∧ Later w wr) (fun i _ => (nt - intOf i).toNat)
  case atStart => exact ⟨0, by omega, rfl, hide fun i r hi => by omega, Later.refl w⟩
  case round =>
    obtain ⟨j, hj, rfl, hpre, hL⟩ := hrel
    by_cases hjn : j < nt
    · obtain ⟨x, hx⟩ : ∃ x, l[j]? = some x := ⟨l[j]'(by have := HNT.out; omega), List.getElem?_eq_getElem _⟩
      obtain ⟨b1, off1, sx, A1, n1, c1, sx', A2, n2, c2, rfl, x1, x2, x3, x4, hr⟩ := (H.out.later hE hL).at_ hx
      have HR := hide hr; have HX := hide hx
      obtain ⟨u, hu⟩ : ∃ u, p x = u := ⟨_, rfl⟩
      have HU := hide hu
      have hj0 : (0 : Int) ≤ (j : Int) := by omega
      have hj1 : (j : Int) < nt := by omega
      clear hr hx hu
      go_wp2_with fail
      refine (HP.out _ _ x hL HR.out (List.mem_of_getElem? HX.out)).mono ?_
      rintro e w8 ⟨rfl, b8⟩
      rw [HU.out]
      have hL8 := hL.trans b8
      cases u
      case false =>
        have HN : Hid (∀ i r, i < j + 1 → l[i]? = some r → p r = false) := hide fun i r hi hr => by
          by_cases hij : i < j
          · exact hpre.out i r hij hr
          · obtain rfl : i = j := by omega
            rw [HX.out] at hr; injection hr with hr; rw [← hr, HU.out]
        go_wp2_with fail
        exact ⟨⟨j+1, by omega, by go_num, HN, hL8⟩, by simp [intOf]; omega⟩
      case true =>
        have HF : Hid (FirstR p l j) := hide (.inr ⟨j, x, rfl, HX.out, HU.out, hpre.out⟩)
        go_wp2_with fail
        go_ret
        exact ⟨_, rfl, HF.out, hL8⟩
    · obtain rfl : j = nt := by omega
      have HF : Hid (FirstR p l (-1)) := hide (.inl ⟨rfl, fun x hx => by
        obtain ⟨i, hi⟩ := List.getElem?_of_mem hx
        exact hpre.out i x (by rw [HNT.out]; exact (List.getElem?_eq_some_iff.1 hi).1) hi⟩)
      go_wp2_with fail
      go_ret
      exact ⟨_, rfl, HF.out, hL⟩
theorem firstR_any {p : Rat → Bool} {l : List Rat} {z : Int} (h : FirstR p l z) : decide (0 ≤ z) = l.any p := by
  rcases h with ⟨rfl, h⟩ | ⟨i, x, rfl, h1, h2, h3⟩
  · have : l.any p = false := by
      rw [List.any_eq_false]; intro x hx; rw [h x hx]; simp
    rw [this]; simp
  · have : l.any p = true := by
      rw [List.any_eq_true]; exact ⟨x, List.mem_of_getElem? h1, h2⟩
    rw [this]; simp
set_option maxHeartbeats 1000000 in
theorem contq_calls (w : World) (v : Value) (l : List Rat) (E : Elem) (hE : ∀ w w' v q, E w v q → Later w w' → E w' v q) (h : Rats E w v l) (hl : l.length ≤ 1000000000) (f : FuncId) (hf : Enters f) (p : Rat → Bool)
    (hp : ∀ W xv x, Later w W → E W xv x → x ∈ l → Calls Tryz.prog f #[xv] W (RetV W (.bool (p x)))) (u : Bool) (hu : l.any p = u) :
    Calls Tryz.prog 118 #[v, .func (.func f) #[] #[]] w (RetV w (.bool u)) := by
  have H := hide h; have HP := hide hp; have HU := hide hu
  obtain ⟨A0, nt, ct, rfl, hnt, -⟩ := h.form
  clear h hp hnt hu
  go_enter Tryz.func118, Tryz.ntmps118
  go_wp2_with fail
  refine (idxq_calls _ _ l E hE H.out hl f hf p HP.out).mono ?_
  rintro e w1 ⟨z, rfl, hz, b1⟩
  have hd := firstR_any hz
  rw [HU.out] at hd
  have HD := hide hd
  clear hz hd
  go_wp2_with fail
  go_ret
  exact ⟨by simp [HD.out], b1⟩

/-- whether a number may be: 1, or 0 -/
def EFlag : Elem := fun w v q => ∃ a A n c b A' n' c' y, v = .agg #[.bool a, .slice A n c, .bool b, .slice A' n' c'] ∧ RawI w (.agg #[.bool b, .slice A' n' c']) y 1000 ∧ q = if 0 < y then 1 else 0
theorem EFlag.later (w w' : World) (v : Value) (q : Rat) (h : EFlag w v q) (hb : Later w w') : EFlag w' v q := by
  obtain ⟨a, A, n, c, b, A', n', c', y, e, h1, h2⟩ := h; exact ⟨a, A, n, c, b, A', n', c', y, e, h1.later hb, h2⟩
theorem EFlag.of_raw {w : World} {v : Value} {q : Rat} {k : Nat} (h : RawR w v q k) (hk : k ≤ 1000) : ∃ m, EFlag w v m := by
  obtain ⟨a, A, n, c, b, A', n', c', x, y, e, h1, h2, h3⟩ := h
  exact ⟨_, a, A, n, c, b, A', n', c', y, e, RawI.mono h2 hk, rfl⟩
theorem EFlag.of_own {w : World} {v : Value} {q : Rat} {B : Nat} (h : OwnR w B v q) (hs : Sized q 1000) : EFlag w v 1 := by
  obtain ⟨s, A, n, c, A', n', c', rfl, h⟩ := h.open_
  have hd := h.den
  refine ⟨_, _, _, _, _, _, _, _, (q.den : Int), rfl, ?_, ?_⟩
  · exact OwnI.raw hd (by simpa using hs.2)
  · rw [if_pos (by have := q.den_pos; omega)]
/-- all may be -/
def allF (l : List Rat) : Bool := l.all fun x => decide (x ≠ 0)
theorem allF_any (l : List Rat) : allF l = !l.any fun x => decide (x = 0) := by
  unfold allF
  induction l with
  | nil => rfl
  | cons x l ih => rw [List.all_cons, List.any_cons, ih]; simp
def allFF (t : List (List Rat)) : Bool := t.all allF
theorem rats_flags {w : World} {v : Value} {l : List Rat} {k : Nat} (h : Rats (ERaw k) w v l) (hk : k ≤ 1000) : ∃ fl, fl.length = l.length ∧ Rats EFlag w v fl := by
  obtain ⟨A, c, e, h1, h2, h3⟩ := h
  have key : ∀ i, i < l.length → ∃ m : Rat, ∃ b off s A1 n1 c1 s' A2 n2 c2, A = some ⟨b, off, none⟩ ∧ w.cell? ⟨b, off + i * 4, none⟩ = some (.bool s) ∧ w.cell? ⟨b, off + i * 4 + 1, none⟩ = some (.slice A1 n1 c1) ∧
        w.cell? ⟨b, off + i * 4 + 2, none⟩ = some (.bool s') ∧ w.cell? ⟨b, off + i * 4 + 3, none⟩ = some (.slice A2 n2 c2) ∧ EFlag w (.agg #[.bool s, .slice A1 n1 c1, .bool s', .slice A2 n2 c2]) m := fun i hi => by
    obtain ⟨b, off, s, A1, n1, c1, s', A2, n2, c2, hA, x1, x2, x3, x4, hE⟩ := h3 i _ (List.getElem?_eq_getElem hi)
    obtain ⟨m, hm⟩ := EFlag.of_raw hE hk
    exact ⟨m, b, off, s, A1, n1, c1, s', A2, n2, c2, hA, x1, x2, x3, x4, hm⟩
  obtain ⟨Q, hQ⟩ := Go.Deep.choose_lt (α := Rat) key
  refine ⟨(List.range l.length).map Q, by simp, A, c, by rw [e]; simp, by simpa using h1, h2, fun i q hi => ?_⟩
  have hin : i < l.length := by
    have := (List.getElem?_eq_some_iff.1 hi).1
    simpa using this
  have hq := hQ i hin
  simp [hin] at hi
  subst hi
  exact hq
theorem tab_flags {w : World} {v : Value} {t : List (List Rat)} {k : Nat} (h : Tab (ERaw k) w v t) (hk : k ≤ 1000) : ∃ ft, ft.length = t.length ∧ Tab EFlag w v ft := by
  obtain ⟨A, c, e, h1, h2, h3⟩ := h
  have key : ∀ i, i < t.length → ∃ fl : List Rat, ∃ b off A' n' c', A = some ⟨b, off, none⟩ ∧ w.cell? ⟨b, off + i, none⟩ = some (.slice A' n' c') ∧ Rats EFlag w (.slice A' n' c') fl := fun i hi => by
    obtain ⟨b, off, A', n', c', hA, x1, hr⟩ := h3 i _ (List.getElem?_eq_getElem hi)
    obtain ⟨fl, -, hm⟩ := rats_flags hr hk
    exact ⟨fl, b, off, A', n', c', hA, x1, hm⟩
  obtain ⟨Q, hQ⟩ := Go.Deep.choose_lt (α := List Rat) key
  refine ⟨(List.range t.length).map Q, by simp, A, c, by rw [e]; simp, by simpa using h1, h2, fun i q hi => ?_⟩
  have hin : i < t.length := by
    have := (List.getElem?_eq_some_iff.1 hi).1
    simpa using this
  have hq := hQ i hin
  simp [hin] at hi
  subst hi
  exact hq
theorem rats_own_flags {w : World} {v : Value} {l : List Rat} (h : Rats EOwn w v l) (hs : ∀ q ∈ l, Sized q 1000) : Rats EFlag w v (List.replicate l.length 1) := by
  obtain ⟨A, c, e, h1, h2, h3⟩ := h
  refine ⟨A, c, by simpa using e, by simpa using h1, h2, fun i q hi => ?_⟩
  rw [List.getElem?_replicate] at hi
  split at hi
  · rename_i hin
    injection hi with hi; subst hi
    obtain ⟨b, off, s, A1, n1, c1, s', A2, n2, c2, hA, x1, x2, x3, x4, hE⟩ := h3 i _ (List.getElem?_eq_getElem hin)
    exact ⟨b, off, s, A1, n1, c1, s', A2, n2, c2, hA, x1, x2, x3, x4, EFlag.of_own hE (hs _ (List.getElem_mem _))⟩
  · cases hi

set_option maxHeartbeats 1000000 in
theorem pall1_calls (w : World) (v : Value) (q : Rat) (h : EFlag w v q) : Calls Tryz.prog 172 #[v] w (RetV w (.bool (decide (q = 0)))) := by
  obtain ⟨sx, A1, n1, c1, sx', A2, n2, c2, y, rfl, hy, hq⟩ := h
  have HY := hide hy
  obtain ⟨u, hu⟩ : ∃ u, decide (0 < y) = u := ⟨_, rfl⟩
  have HQ : Hid (decide (q = 0) = !u) := hide (by rw [hq, ← hu]; by_cases h : 0 < y <;> simp [h])
  have HU := hide hu
  clear hy hq hu
  obtain ⟨W0, hW0⟩ : ∃ W0, W0 = w.alloc (Obj.cells #[Value.bool sx, Value.slice A1 n1 c1, Value.bool sx', Value.slice A2 n2 c2] 37) := ⟨_, rfl⟩
  obtain ⟨hb0, r1, hsz0⟩ := boxes1 w [.bool sx, .slice A1 n1 c1, .bool sx', .slice A2 n2 c2] 37 hW0
  have B0 := hide hb0; have HW0 := hide hW0
  obtain ⟨d1, d2, d3, d4, d5, d6, d7, d8⟩ := row_cells4 r1
  clear r1 hb0 hW0
  go_enter Tryz.func172, Tryz.ntmps172
  go_upto_region 1 with fail
  rw [← HW0.out]
  go_wp2_with fail
  ((with_reducible refine (may_calls W0 sx _ undef A2 n2 c2 sx' y 1000 (HY.out.later B0.out) ⟨_, _, _, rfl⟩ (by omega)).mono ?_); rintro e w1 ⟨rfl, b1⟩; rw [HU.out])
  have HL := hide (B0.out.trans b1)
  clear b1
  go_wp2_with fail
  go_ret
  exact ⟨by rw [HQ.out]; rfl, HL.out⟩

set_option maxHeartbeats 2000000 in
theorem pall_calls (w : World) (v : Value) (t : List (List Rat)) (h : Tab EFlag w v t) (hl : t.length ≤ 1000000000) (hl2 : ∀ r ∈ t, r.length ≤ 1000000000) (u : Bool) (hu : allFF t = u) :
    Calls Tryz.prog 142 #[v] w (RetV w (.bool u)) := by
  have H := hide h; have HU := hide hu; have HL2 := hide hl2
  obtain ⟨A0, nt, ct, rfl, hnt, -, -, -⟩ := h.form
  have HNT := hide hnt
  have hn9 : nt ≤ 1000000000 := by omega
  clear h hnt hl hu hl2
  go_enter Tryz.func142, Tryz.ntmps142
  go_wp2_with fail
  go_loopw [7] (fun i wr => ∃ j : Nat, j ≤ nt ∧ i = .int .i64 (j : Int) ∧ Hid (∀ r ∈ t.take j, allF r = true) ∧ Later w wr) (fun i _ => (nt - intOf i).toNat)
  case atStart => exact ⟨0, by omega, rfl, hide fun r hr => by simp at hr, Later.refl w⟩
  case round =>
    obtain ⟨j, hj, rfl, hpre, hL⟩ := hrel
    by_cases hjn : j < nt
    · obtain ⟨row, hrow⟩ : ∃ row, t[j]? = some row := ⟨t[j]'(by have := HNT.out; omega), List.getElem?_eq_getElem _⟩
      obtain ⟨b1, off1, A1, n1, c1, rfl, x1, hr⟩ := (H.out.later EFlag.later hL).at_ hrow
      have HR := hide hr; have HROW := hide hrow
      obtain ⟨u1, hu1⟩ : ∃ u, row.any (fun x => decide (x = 0)) = u := ⟨_, rfl⟩
      have HU1 : Hid (allF row = !u1) := hide (by rw [← hu1]; exact allF_any row)
      have HU2 := hide hu1
      have hj0 : (0 : Int) ≤ (j : Int) := by omega
      have hj1 : (j : Int) < nt := by omega
      clear hr hrow hu1
      go_wp2_with fail
      refine (contq_calls _ _ row EFlag EFlag.later HR.out (HL2.out row (List.mem_of_getElem? HROW.out)) _ ⟨fun _ _ => by kernel_rfl⟩ (fun x => decide (x = 0)) (fun W xv x _ hx _ => pall1_calls W xv x hx) u1 HU2.out).mono ?_
      rintro e w8 ⟨rfl, b8⟩
      have hL8 := hL.trans b8
      cases u1
      case false =>
        have HN : Hid (∀ r ∈ t.take (j + 1), allF r = true) := hide fun r hr => by
          rw [List.take_add_one, HROW.out] at hr
          rcases List.mem_append.1 hr with h | h
          · exact hpre.out r h
          · simp at h; rw [h, HU1.out]; rfl
        go_wp2_with fail
        exact ⟨⟨j+1, by omega, by go_num, HN, hL8⟩, by simp [intOf]; omega⟩
      case true =>
        have HF : Hid (u = false) := hide (by
          rw [← HU.out]; unfold allFF; rw [List.all_eq_false]
          exact ⟨row, List.mem_of_getElem? HROW.out, by rw [HU1.out]; simp⟩)
        go_wp2_with fail
        go_ret
        exact ⟨by rw [HF.out]; rfl, hL8⟩
    · obtain rfl : j = nt := by omega
      have HF : Hid (u = true) := hide (by
        rw [← HU.out]; unfold allFF; rw [List.all_eq_true]
        intro r hr
        exact hpre.out r (by rw [HNT.out, List.take_length]; exact hr))
      go_wp2_with fail
      go_ret
      exact ⟨by rw [HF.out]; rfl, hL⟩


set_option maxHeartbeats 1000000 in
theorem pzero_calls (w : World) : Calls Tryz.prog 144 #[] w (Ret w fun w' v => OwnR w' w.heap.size v 0) := by
  go_enter Tryz.func144, Tryz.ntmps144
  go_wp2_with fail
  refine (rplain_calls _ _ 0 0 (rawR_zero _ 0) (by omega)).mono ?_
  rintro e w1 ⟨v1, rfl, o1, b1⟩
  obtain ⟨s1, P1, q1, e1, P1', q1', e1', rfl, o1⟩ := o1.open_; have O1 := hide o1; clear o1
  have hL := ((Later.refl w).alloc (Obj.cells #[.bool false, .slice none 0 0, .bool false, .slice none 0 0] 37)).trans b1
  have hrow := ((Row.new w 37 [.bool false, .slice none 0 0, .bool false, .slice none 0 0]).later b1)
  obtain ⟨c0, c1, c2, c3, f0, f1, f2, f3⟩ := row_cells4 hrow
  have HR := hide hrow
  clear hrow
  go_wp2_with fail
  refine bodyPost_ret (results_rat rfl rfl (HR.out.four _ _ _ _)) rfl ?_
  have oo := Only.four w.heap.size w1 (.bool s1) (.slice P1 q1 e1) (.bool false) (.slice P1' q1' e1')
  exact ⟨_, rfl, (O1.out.only oo (by simp)).weaken (by simp), hL.only oo (Nat.le_refl _)⟩

set_option maxHeartbeats 1000000 in
theorem pneg_calls (w : World) (v : Value) (q : Rat) (k : Nat) (h : RawR w v q k) (hk : k ≤ 1000000) : Calls Tryz.prog 143 #[v] w (RetV w (.bool (decide (q < 0)))) := by
  obtain ⟨sx, A1, n1, c1, sx', A2, n2, c2, rfl⟩ := h.open_
  have H := hide h
  obtain ⟨cz, hcz⟩ : ∃ cz, cmpQ q 0 = cz := ⟨_, rfl⟩
  have HD : Hid (decide (cz < 0) = decide (q < 0)) := hide (by rw [← hcz]; unfold cmpQ; by_cases h : q < 0 <;> simp [h]; split <;> simp)
  have HCZ := hide hcz
  clear h hcz
  obtain ⟨W0, hW0⟩ : ∃ W0, W0 = w.alloc (Obj.cells #[Value.bool sx, Value.slice A1 n1 c1, Value.bool sx', Value.slice A2 n2 c2] 37) := ⟨_, rfl⟩
  obtain ⟨hb0, r1, hsz0⟩ := boxes1 w [.bool sx, .slice A1 n1 c1, .bool sx', .slice A2 n2 c2] 37 hW0
  have B0 := hide hb0; have HW0 := hide hW0
  have hr1 := r1.drew
  have HT1 : Hid (∀ w', Later W0.drew w' → w'.cell? ⟨w.heap.size, 0, none⟩ = some (.bool sx) ∧ w'.cell? ⟨w.heap.size, 1, none⟩ = some (.slice A1 n1 c1) ∧ w'.cell? ⟨w.heap.size, 2, none⟩ = some (.bool sx') ∧ w'.cell? ⟨w.heap.size, 3, none⟩ = some (.slice A2 n2 c2)) :=
    hide fun w' hb => ⟨(hr1.later hb).cell rfl, (hr1.later hb).cell rfl, (hr1.later hb).cell rfl, (hr1.later hb).cell rfl⟩

  clear r1 hb0 hW0 hr1
  go_enter Tryz.func143, Tryz.ntmps143
  go_upto_region 1 with fail
  rw [← HW0.out]
  go_region_held3 (fun w' => w'.cell? ⟨w.heap.size, 0, none⟩ = some (.bool sx) ∧ w'.cell? ⟨w.heap.size, 1, none⟩ = some (.slice A1 n1 c1) ∧ w'.cell? ⟨w.heap.size, 2, none⟩ = some (.bool sx') ∧ w'.cell? ⟨w.heap.size, 3, none⟩ = some (.slice A2 n2 c2))
    (first | exact HT1.out _ (Later.refl _) | exact HT1.out _ b1 | exact HT1.out _ (b1.trans b2))
    (first
      | ((with_reducible refine (pzero_calls _).mono ?_); rintro e w1 ⟨v1, rfl, o1, b1⟩; obtain ⟨s1, P1, q1, e1, P1', q1', e1', rfl, o1⟩ := o1.open_; have O1 := hide o1; clear o1)
      | ((with_reducible refine (rcmp_calls _ _ _ q 0 k 1 (RawR.later H.out (B0.out.drew.trans b1)) (OwnR.raw O1.out sized_0) (by omega)).mono ?_); rintro e w2 ⟨rfl, b2⟩; rw [HCZ.out]))
  all_goals
    have HL := hide (B0.out.drew.trans (b1.trans b2))
    clear b1 b2
    go_wp2_with fail
    go_ret
    exact ⟨by simp [HD.out], HL.out⟩

/-- whether a standard form is right: ok: all numbers may be -/
def rightB (A : List (List Rat)) (B C : List Rat) (ok : Bool) : Bool :=
  decide (A.length ≤ 64) && (decide (C.length ≤ 80) && (decide (B.length = A.length) && (rectB A C.length && (ok && !B.any (fun x => decide (x < 0))))))

set_option maxHeartbeats 4000000 in
theorem right_calls (w : World) (vA vB vC : Value) (A fA : List (List Rat)) (B C fB fC : List Rat) (k : Nat) (ha : Tab (ERaw k) w vA A) (hb : Rats (ERaw k) w vB B) (hc : Rats (ERaw k) w vC C)
    (ga : Tab EFlag w vA fA) (gb : Rats EFlag w vB fB) (gc : Rats EFlag w vC fC) (hk : k ≤ 1000000) (hl : ∀ r ∈ A, r.length ≤ 1000000000) (hl2 : ∀ r ∈ fA, r.length ≤ 1000000000) (hA9 : A.length ≤ 1000000000) (hB9 : B.length ≤ 1000000000) (hC9 : C.length ≤ 1000000000) :
    Calls Tryz.prog 97 #[.agg #[vA, vB, vC]] w (RetV w (.bool (rightB A B C (allFF fA && (allF fB && allF fC))))) := by
  have HA := hide ha; have HB := hide hb; have HC := hide hc; have GA := hide ga; have GB := hide gb; have GC := hide gc; have HL := hide hl; have HL2 := hide hl2
  obtain ⟨A1, n1, c1, rfl, hn1, -, -, -⟩ := ha.form
  obtain ⟨A2, n2, c2, rfl, hn2, -⟩ := hb.form
  obtain ⟨A3, n3, c3, rfl, hn3, -⟩ := hc.form
  have hf1 : n1 = fA.length := by obtain ⟨_, _, _, e, e2, -, -, -⟩ := ga.form; injection e with _ e _; rw [e, e2]
  have hf2 : n2 = fB.length := gb.len_
  have hf3 : n3 = fC.length := gc.len_
  have HN1 := hide hn1; have HN2 := hide hn2; have HN3 := hide hn3; have HF1 := hide hf1; have HF2 := hide hf2; have HF3 := hide hf3
  have k1 : n1 ≤ 1000000000 := by omega
  have k2 : n2 ≤ 1000000000 := by omega
  have k3 : n3 ≤ 1000000000 := by omega
  clear ha hb hc ga gb gc hl hl2 hn1 hn2 hn3 hf1 hf2 hf3 hA9 hB9 hC9
  obtain ⟨W0, hW0⟩ : ∃ W0, W0 = w.alloc (Obj.cells #[Value.slice A1 n1 c1, Value.slice A2 n2 c2, Value.slice A3 n3 c3] 25) := ⟨_, rfl⟩
  obtain ⟨hb0, r1, hsz0⟩ := boxes1 w [.slice A1 n1 c1, .slice A2 n2 c2, .slice A3 n3 c3] 25 hW0
  have B0 := hide hb0; have HW0 := hide hW0; have R1 := hide r1
  have d1 := r1.cell (i := 0) rfl; have d2 := r1.cell (i := 1) rfl; have d3 := r1.cell (i := 2) rfl
  clear r1 hb0 hW0 hsz0
  go_enter Tryz.func97, Tryz.ntmps97
  go_upto_region 1 with fail
  rw [← HW0.out]
  by_cases h1 : 64 < n1
  · have t1 : decide ((64 : Int) < (n1 : Int)) = true := by simp; omega
    have HF : Hid (rightB A B C (allFF fA && (allF fB && allF fC)) = false) := hide (by unfold rightB; rw [← HN1.out]; simp [h1]; intro h; omega)
    go_wp2_with fail
    go_ret
    exact ⟨by rw [HF.out]; rfl, B0.out⟩
  have t1 : decide ((64 : Int) < (n1 : Int)) = false := by simp; omega
  by_cases h2 : 80 < n3
  · have t2 : decide ((80 : Int) < (n3 : Int)) = true := by simp; omega
    have HF : Hid (rightB A B C (allFF fA && (allF fB && allF fC)) = false) := hide (by unfold rightB; rw [← HN3.out, show decide (n3 ≤ 80) = false by simp; omega]; simp)
    go_wp2_with fail
    go_ret
    exact ⟨by rw [HF.out]; rfl, B0.out⟩
  have t2 : decide ((80 : Int) < (n3 : Int)) = false := by simp; omega
  by_cases h3 : n2 = n1
  rotate_left
  · have t3 : ((n2 : Int) != (n1 : Int)) = true := by rw [bne_iff_ne]; omega
    have HF : Hid (rightB A B C (allFF fA && (allF fB && allF fC)) = false) := hide (by unfold rightB; rw [← HN1.out, ← HN2.out]; simp [h3])
    go_wp2_with fail
    go_ret
    exact ⟨by rw [HF.out]; rfl, B0.out⟩
  have t3 : ((n2 : Int) != (n1 : Int)) = false := by rw [h3]; simp
  have HR0 : Hid (rightB A B C (allFF fA && (allF fB && allF fC)) = (rectB A n3 && (allFF fA && (allF fB && allF fC) && !B.any (fun x => decide (x < 0))))) := hide (by
    unfold rightB
    rw [← HN1.out, ← HN2.out, ← HN3.out, show decide (n1 ≤ 64) = true by simp; omega, show decide (n3 ≤ 80) = true by simp; omega, show decide (n2 = n1) = true by simp [h3]]
    rfl)
  have H3 := hide h3
  clear h1 h2 h3
  go_wp2_with fail
  obtain ⟨u1, hu1⟩ : ∃ u, rectB A n3 = u := ⟨_, rfl⟩
  have HU1 := hide hu1
  clear hu1
  ((with_reducible refine (rect_calls W0 _ A (ERaw k) ERaw.later (HA.out.later ERaw.later B0.out) n3 (by rw [← HN1.out]; omega) HL.out u1 HU1.out).mono ?_); rintro e w1 ⟨rfl, b1⟩)
  have hr1 := R1.out.later b1
  have d1 := hr1.cell (i := 0) rfl; have d2 := hr1.cell (i := 1) rfl; have d3 := hr1.cell (i := 2) rfl
  have HL1 := hide (B0.out.trans b1); have R11 := hide hr1
  clear b1 hr1
  cases u1 with
  | false =>
    go_wp2_with fail
    go_ret
    exact ⟨by rw [HR0.out, HU1.out]; rfl, HL1.out⟩
  | true =>
  go_wp2_with fail
  obtain ⟨u2, hu2⟩ : ∃ u, allFF fA = u := ⟨_, rfl⟩
  have HU2 := hide hu2
  clear hu2
  ((with_reducible refine (pall_calls w1 _ fA (GA.out.later EFlag.later HL1.out) (by rw [← HF1.out]; omega) HL2.out u2 HU2.out).mono ?_); rintro e w2 ⟨rfl, b2⟩)
  have hr1 := R11.out.later b2
  have d1 := hr1.cell (i := 0) rfl; have d2 := hr1.cell (i := 1) rfl; have d3 := hr1.cell (i := 2) rfl
  have HL2' := hide (HL1.out.trans b2); have R12 := hide hr1
  clear b2 hr1
  cases u2 with
  | false =>
    go_wp2_with fail
    go_ret
    exact ⟨by rw [HR0.out, HU1.out, HU2.out]; rfl, HL2'.out⟩
  | true =>
  go_wp2_with fail
  obtain ⟨W3, hW3⟩ : ∃ W3, W3 = w2.alloc (Obj.cells #[Value.slice A2 n2 c2, Value.slice A3 n3 c3] 23) := ⟨_, rfl⟩
  have hb3 : Later w2 W3 := by rw [hW3]; exact (Later.refl _).alloc _
  have hr3 : Row W3 w2.heap.size 23 [.slice A2 n2 c2, .slice A3 n3 c3] := by rw [hW3]; exact Row.new _ _ _
  rw [← hW3]
  have HL3 := hide (HL2'.out.trans hb3)
  have HT3 : Hid (Tab EFlag W3 (.slice (some ⟨w2.heap.size, 0, none⟩) 2 2) [fB, fC]) := hide (tab_two hr3 (GB.out.later EFlag.later HL3.out) (GC.out.later EFlag.later HL3.out))
  have R13 := hide (R12.out.later hb3)
  clear hW3 hb3 hr3 d1 d2 d3
  obtain ⟨u3, hu3⟩ : ∃ u, allFF [fB, fC] = u := ⟨_, rfl⟩
  have HU3 : Hid ((allF fB && allF fC) = u3) := hide (by rw [← hu3]; simp [allFF])
  have HU3' := hide hu3
  clear hu3
  ((with_reducible refine (pall_calls W3 _ [fB, fC] HT3.out (by simp) (fun r hr => by simp at hr; rcases hr with rfl | rfl <;> first | (rw [← HF2.out]; omega) | (rw [← HF3.out]; omega)) u3 HU3'.out).mono ?_); rintro e w4 ⟨rfl, b4⟩)
  have hr1 := R13.out.later b4
  have d1 := hr1.cell (i := 0) rfl; have d2 := hr1.cell (i := 1) rfl; have d3 := hr1.cell (i := 2) rfl
  have HL4 := hide (HL3.out.trans b4); have R14 := hide hr1
  clear b4 hr1
  cases u3 with
  | false =>
    go_wp2_with fail
    go_ret
    exact ⟨by rw [HR0.out, HU1.out, HU2.out, HU3.out]; rfl, HL4.out⟩
  | true =>
  go_wp2_with fail
  obtain ⟨u4, hu4⟩ : ∃ u, B.any (fun x => decide (x < 0)) = u := ⟨_, rfl⟩
  have HU4 := hide hu4
  clear hu4
  refine (contq_calls _ _ B (ERaw k) ERaw.later (HB.out.later ERaw.later HL4.out) (by rw [← HN2.out]; omega) _ ⟨fun _ _ => by kernel_rfl⟩ (fun x => decide (x < 0)) (fun W xv x _ hx _ => pneg_calls W xv x k hx hk) u4 HU4.out).mono ?_
  rintro e w5 ⟨rfl, b5⟩
  have HL5 := hide (HL4.out.trans b5)
  clear b5
  go_wp2_with fail
  go_ret
  exact ⟨by rw [HR0.out, HU1.out, HU2.out, HU3.out, HU4.out]; rfl, HL5.out⟩
end Go.Proofs.YthncinngkfflgaaGreat


/- Proofs of standard forms: the program's signs, never, and what comes. -/
set_option linter.unusedVariables false
set_option linter.unusedSimpArgs false
set_option maxRecDepth 100000
namespace Go.Proofs.YthncinngkfflgaaGreat
open Go.RowKit Go.Shelf
attribute [local go_sem ↓] Go.wp_at_zero Go.wp_at_succ

theorem cmp0_lt {q : Rat} {cz : Int} (h : cmpQ q 0 = cz) : decide (cz < 0) = decide (q < 0) := by
  subst h; unfold cmpQ
  by_cases h : q < 0
  · simp [h]
  · rw [if_neg h]; split <;> simp [h]
theorem cmp0_gt {q : Rat} {cz : Int} (h : cmpQ q 0 = cz) : decide (0 < cz) = decide (0 < q) := by
  subst h; unfold cmpQ
  by_cases h : q < 0
  · have h2 : ¬ 0 < q := by grind
    simp [h, h2]
  · rw [if_neg h]
    split
    · rename_i h3; simp [h3]
    · rename_i h3; simp [h3]
theorem cmp_eq0 {a b : Rat} {cz : Int} (h : cmpQ a b = cz) : (cz == 0) = decide (a = b) := by
  subst h; unfold cmpQ
  by_cases h : a < b
  · have h2 : ¬ a = b := by grind
    simp [h, h2]
  · rw [if_neg h]
    split
    · have h2 : ¬ a = b := by grind
      simp [h2]
    · have h2 : a = b := by grind
      simp [h2]

set_option maxHeartbeats 1000000 in
theorem czero_calls (w : World) : Calls Tryz.prog 53 #[] w (Ret w fun w' v => OwnR w' w.heap.size v 0) := by
  go_enter Tryz.func53, Tryz.ntmps53
  go_wp2_with fail
  refine (rplain_calls _ _ 0 0 (rawR_zero _ 0) (by omega)).mono ?_
  rintro e w1 ⟨v1, rfl, o1, b1⟩
  obtain ⟨s1, P1, q1, e1, P1', q1', e1', rfl, o1⟩ := o1.open_; have O1 := hide o1; clear o1
  have hL := ((Later.refl w).alloc (Obj.cells #[.bool false, .slice none 0 0, .bool false, .slice none 0 0] 37)).trans b1
  have hrow := ((Row.new w 37 [.bool false, .slice none 0 0, .bool false, .slice none 0 0]).later b1)
  obtain ⟨c0, c1, c2, c3, f0, f1, f2, f3⟩ := row_cells4 hrow
  have HR := hide hrow
  clear hrow
  go_wp2_with fail
  refine bodyPost_ret (results_rat rfl rfl (HR.out.four _ _ _ _)) rfl ?_
  have oo := Only.four w.heap.size w1 (.bool s1) (.slice P1 q1 e1) (.bool false) (.slice P1' q1' e1')
  exact ⟨_, rfl, (O1.out.only oo (by simp)).weaken (by simp), hL.only oo (Nat.le_refl _)⟩

set_option maxHeartbeats 1000000 in
theorem below_calls (w : World) (v : Value) (q : Rat) (k : Nat) (h : RawR w v q k) (hk : k ≤ 10000000) : Calls Tryz.prog 100 #[v] w (RetV w (.bool (decide (q < 0)))) := by
  obtain ⟨sx, A1, n1, c1, sx', A2, n2, c2, rfl⟩ := h.open_
  have H := hide h
  obtain ⟨cz, hcz⟩ : ∃ cz, cmpQ q 0 = cz := ⟨_, rfl⟩
  have HD : Hid (decide (cz < 0) = decide (q < 0)) := hide (cmp0_lt hcz)
  have HCZ := hide hcz
  clear h hcz
  obtain ⟨W0, hW0⟩ : ∃ W0, W0 = w.alloc (Obj.cells #[Value.bool sx, Value.slice A1 n1 c1, Value.bool sx', Value.slice A2 n2 c2] 37) := ⟨_, rfl⟩
  obtain ⟨hb0, r1, hsz0⟩ := boxes1 w [.bool sx, .slice A1 n1 c1, .bool sx', .slice A2 n2 c2] 37 hW0
  have B0 := hide hb0; have HW0 := hide hW0
  have hr1 := r1.drew
  have HT1 : Hid (∀ w', Later W0.drew w' → w'.cell? ⟨w.heap.size, 0, none⟩ = some (.bool sx) ∧ w'.cell? ⟨w.heap.size, 1, none⟩ = some (.slice A1 n1 c1) ∧ w'.cell? ⟨w.heap.size, 2, none⟩ = some (.bool sx') ∧ w'.cell? ⟨w.heap.size, 3, none⟩ = some (.slice A2 n2 c2)) :=
    hide fun w' hb => ⟨(hr1.later hb).cell rfl, (hr1.later hb).cell rfl, (hr1.later hb).cell rfl, (hr1.later hb).cell rfl⟩

  clear r1 hb0 hW0 hr1
  go_enter Tryz.func100, Tryz.ntmps100
  go_upto_region 1 with fail
  rw [← HW0.out]
  go_region_held3 (fun w' => w'.cell? ⟨w.heap.size, 0, none⟩ = some (.bool sx) ∧ w'.cell? ⟨w.heap.size, 1, none⟩ = some (.slice A1 n1 c1) ∧ w'.cell? ⟨w.heap.size, 2, none⟩ = some (.bool sx') ∧ w'.cell? ⟨w.heap.size, 3, none⟩ = some (.slice A2 n2 c2))
    (first | exact HT1.out _ (Later.refl _) | exact HT1.out _ b1 | exact HT1.out _ (b1.trans b2))
    (first
      | ((with_reducible refine (czero_calls _).mono ?_); rintro e w1 ⟨v1, rfl, o1, b1⟩; obtain ⟨s1, P1, q1, e1, P1', q1', e1', rfl, o1⟩ := o1.open_; have O1 := hide o1; clear o1)
      | ((with_reducible refine (rcmp_calls _ _ _ q 0 k 1 (RawR.later H.out (B0.out.drew.trans b1)) (OwnR.raw O1.out sized_0) (by omega)).mono ?_); rintro e w2 ⟨rfl, b2⟩; rw [HCZ.out]))
  all_goals
    have HL := hide (B0.out.drew.trans (b1.trans b2))
    clear b1 b2
    go_wp2_with fail
    go_ret
    exact ⟨by simp [HD.out], HL.out⟩

set_option maxHeartbeats 1000000 in
theorem cabove_calls (w : World) (v : Value) (q : Rat) (k : Nat) (h : RawR w v q k) (hk : k ≤ 10000000) : Calls Tryz.prog 103 #[v] w (RetV w (.bool (decide (0 < q)))) := by
  obtain ⟨sx, A1, n1, c1, sx', A2, n2, c2, rfl⟩ := h.open_
  have H := hide h
  obtain ⟨cz, hcz⟩ : ∃ cz, cmpQ q 0 = cz := ⟨_, rfl⟩
  have HD : Hid (decide (0 < cz) = decide (0 < q)) := hide (cmp0_gt hcz)
  have HCZ := hide hcz
  clear h hcz
  obtain ⟨W0, hW0⟩ : ∃ W0, W0 = w.alloc (Obj.cells #[Value.bool sx, Value.slice A1 n1 c1, Value.bool sx', Value.slice A2 n2 c2] 37) := ⟨_, rfl⟩
  obtain ⟨hb0, r1, hsz0⟩ := boxes1 w [.bool sx, .slice A1 n1 c1, .bool sx', .slice A2 n2 c2] 37 hW0
  have B0 := hide hb0; have HW0 := hide hW0
  have hr1 := r1.drew
  have HT1 : Hid (∀ w', Later W0.drew w' → w'.cell? ⟨w.heap.size, 0, none⟩ = some (.bool sx) ∧ w'.cell? ⟨w.heap.size, 1, none⟩ = some (.slice A1 n1 c1) ∧ w'.cell? ⟨w.heap.size, 2, none⟩ = some (.bool sx') ∧ w'.cell? ⟨w.heap.size, 3, none⟩ = some (.slice A2 n2 c2)) :=
    hide fun w' hb => ⟨(hr1.later hb).cell rfl, (hr1.later hb).cell rfl, (hr1.later hb).cell rfl, (hr1.later hb).cell rfl⟩

  clear r1 hb0 hW0 hr1
  go_enter Tryz.func103, Tryz.ntmps103
  go_upto_region 1 with fail
  rw [← HW0.out]
  go_region_held3 (fun w' => w'.cell? ⟨w.heap.size, 0, none⟩ = some (.bool sx) ∧ w'.cell? ⟨w.heap.size, 1, none⟩ = some (.slice A1 n1 c1) ∧ w'.cell? ⟨w.heap.size, 2, none⟩ = some (.bool sx') ∧ w'.cell? ⟨w.heap.size, 3, none⟩ = some (.slice A2 n2 c2))
    (first | exact HT1.out _ (Later.refl _) | exact HT1.out _ b1 | exact HT1.out _ (b1.trans b2))
    (first
      | ((with_reducible refine (czero_calls _).mono ?_); rintro e w1 ⟨v1, rfl, o1, b1⟩; obtain ⟨s1, P1, q1, e1, P1', q1', e1', rfl, o1⟩ := o1.open_; have O1 := hide o1; clear o1)
      | ((with_reducible refine (rcmp_calls _ _ _ q 0 k 1 (RawR.later H.out (B0.out.drew.trans b1)) (OwnR.raw O1.out sized_0) (by omega)).mono ?_); rintro e w2 ⟨rfl, b2⟩; rw [HCZ.out]))
  all_goals
    have HL := hide (B0.out.drew.trans (b1.trans b2))
    clear b1 b2
    go_wp2_with fail
    go_ret
    exact ⟨by simp [HD.out], HL.out⟩

set_option maxHeartbeats 2000000 in
theorem rof1_calls (w : World) (n : Int) (h1 : -9223372036854775808 ≤ n) (h2 : n < 9223372036854775808) (q : Rat) (hq : Rat.divInt n 1 = q) :
    Calls Tryz.prog 135 #[.int .i64 n, .int .i64 1] w (Ret2 w fun w' v o => OwnR w' w.heap.size v q ∧ o = .bool true) := by
  have HQ := hide hq
  clear hq
  go_enter Tryz.func135, Tryz.ntmps135
  go_upto_region 1 with fail
  obtain ⟨W0, hW0⟩ : ∃ W0, W0 = w.alloc (Obj.cells #[Value.bool false, Value.slice none 0 0, Value.bool false, Value.slice none 0 0] 37) := ⟨_, rfl⟩
  obtain ⟨hb0, r1, hsz0⟩ := boxes1 w [.bool false, .slice none 0 0, .bool false, .slice none 0 0] 37 hW0
  have R1 := hide r1; have B0' := hide hb0; have HW0 := hide hW0
  clear r1 hb0 hW0
  rw [← HW0.out]
  go_wp2_with fail
  ((with_reducible refine (wof_calls W0 n h1 h2).mono ?_); rintro e w1 ⟨v1, rfl, o1, b1⟩)
  obtain ⟨s1, P1, q1, e1, rfl, o1⟩ := o1.open_; have O1 := hide o1; clear o1
  have HB1 := hide b1
  clear b1
  go_wp2_with fail
  ((with_reducible refine (wof_calls w1 1 (by omega) (by omega)).mono ?_); rintro e w2 ⟨v2, rfl, o2, b2⟩)
  obtain ⟨s2, P2, q2, e2, rfl, o2⟩ := o2.open_; have O2 := hide o2; clear o2
  have HB2 := hide b2
  clear b2
  have hk1 : (limbs n.natAbs).length ≤ 3 := length_limbs_le (by omega)
  have hk2 : (limbs (1 : Int).natAbs).length ≤ 3 := length_limbs_le (by omega)
  have K1 := hide hk1; have K2 := hide hk2
  clear hk1 hk2
  go_wp2_with fail
  ((with_reducible refine (by_calls w2 _ _ n 1 3 (RawI.later (OwnI.raw O1.out K1.out) HB2.out) (OwnI.raw O2.out K2.out) (by omega) (by omega) q HQ.out.symm).mono ?_); rintro e w3 ⟨v3, rfl, o3, b3⟩)
  obtain ⟨s3, P3, q3, e3, P3', q3', e3', rfl, o3⟩ := o3.open_; have O3 := hide o3; clear o3
  have hL := HB1.out.trans (HB2.out.trans b3)
  have hrow := R1.out.later hL
  have hsz := hL.size
  obtain ⟨d1, d2, d3, d4, d5, d6, d7, d8⟩ := row_cells4 hrow
  have HR := hide hrow; have HL := hide (B0'.out.trans hL)
  have hs : w.heap.size < W0.heap.size := R1.out.lt
  have hs2 := HB1.out.size; have hs3 := HB2.out.size
  clear hrow b3 hL
  go_wp2_with fail
  refine bodyPost_ret (results_rat_bool rfl rfl rfl (HR.out.four _ _ _ _)) rfl ?_
  have oo := Only.four w.heap.size w3 (.bool s3) (.slice P3 q3 e3) (.bool false) (.slice P3' q3' e3')
  exact ⟨_, _, rfl, ⟨(O3.out.only oo (by omega)).weaken (by omega), rfl⟩, HL.out.only oo (Nat.le_refl _)⟩

set_option maxHeartbeats 2000000 in
theorem minus_calls (w : World) : Calls Tryz.prog 102 #[] w (Ret w fun w' v => OwnR w' w.heap.size v (-1)) := by
  go_enter Tryz.func102, Tryz.ntmps102
  go_upto_region 1 with fail
  obtain ⟨W0, hW0⟩ : ∃ W0, W0 = w.alloc (Obj.cells #[Value.bool false, Value.slice none 0 0, Value.bool false, Value.slice none 0 0] 37) := ⟨_, rfl⟩
  obtain ⟨hb0, r1, hsz0⟩ := boxes1 w [.bool false, .slice none 0 0, .bool false, .slice none 0 0] 37 hW0
  have R1 := hide r1; have B0' := hide hb0; have HW0 := hide hW0
  clear r1 hb0 hW0
  rw [← HW0.out]
  go_wp2_with fail
  ((with_reducible refine (rof1_calls W0 (-1) (by omega) (by omega) (-1) (by decide +kernel)).mono ?_); rintro e w1 ⟨v1, ok, rfl, ⟨o1, rfl⟩, b1⟩)
  obtain ⟨s1, P1, q1, e1, P1', q1', e1', rfl, o1⟩ := o1.open_; have O1 := hide o1; clear o1
  have HB1 := hide b1
  clear b1
  go_upto_region 2 with fail
  obtain ⟨W1, hW1⟩ : ∃ W1, W1 = w1.alloc (Obj.cells #[Value.bool s1, Value.slice P1 q1 e1, Value.bool false, Value.slice P1' q1' e1'] 37) := ⟨_, rfl⟩
  obtain ⟨g1, hg1⟩ : ∃ g1, g1 = w1.heap.size := ⟨_, rfl⟩
  have hb : Later w1 W1 := by rw [hW1]; exact (Later.refl _).alloc _
  have hr : Row W1 g1 37 [.bool s1, .slice P1 q1 e1, .bool false, .slice P1' q1' e1'] := by rw [hW1, hg1]; exact Row.new _ _ _
  rw [← hW1, ← hg1]
  have hL := HB1.out.trans hb
  have hrow := R1.out.later hL
  have hsz := hL.size
  obtain ⟨d1, d2, d3, d4, d5, d6, d7, d8⟩ := row_cells4 hrow
  obtain ⟨f1, f2, f3, f4, f5, f6, f7, f8⟩ := row_cells4 hr
  have hs : w.heap.size < W0.heap.size := R1.out.lt
  have hs2 := HB1.out.size
  have HR := hide hrow; have HL := hide (B0'.out.trans hL)
  have HO := hide (OwnR.later O1.out hb)
  clear hrow hL hb hr hW1 hg1
  go_wp2_with fail
  refine bodyPost_ret (results_rat rfl rfl (HR.out.four _ _ _ _)) rfl ?_
  have oo := Only.four w.heap.size W1 (.bool s1) (.slice P1 q1 e1) (.bool false) (.slice P1' q1' e1')
  exact ⟨_, rfl, (HO.out.only oo (by omega)).weaken (by omega), HL.out.only oo (Nat.le_refl _)⟩

set_option maxHeartbeats 1000000 in
theorem never1_calls (w : World) (rv : Value) (row : List Rat) (E : Elem) (hE : ∀ w w' v q, E w v q → Later w w' → E w' v q) (h : Rats E w rv row) (hl : row.length ≤ 1000000000) (f : FuncId) (hf : Enters f) (G : Nat) (hG : Row w G 39 [.func (.func f) #[] #[]]) (p : Rat → Bool)
    (hp : ∀ W xv x, Later w W → E W xv x → x ∈ row → Calls Tryz.prog f #[xv] W (RetV W (.bool (p x)))) :
    Calls Tryz.prog 147 #[rv, .pointer (some ⟨G, 0, none⟩)] w (RetV w (.bool (row.any p))) := by
  have H := hide h; have HP := hide hp
  obtain ⟨A1, n1, c1, rfl, -⟩ := h.form
  have d1 := hG.cell (i := 0) rfl
  obtain ⟨u, hu⟩ : ∃ u, row.any p = u := ⟨_, rfl⟩
  have HU := hide hu
  clear h hp hG hu
  go_enter Tryz.func147, Tryz.ntmps147
  go_wp2_with fail
  refine (contq_calls _ _ row E hE H.out hl f hf p HP.out u HU.out).mono ?_
  rintro e w1 ⟨rfl, b1⟩
  go_wp2_with fail
  go_ret
  exact ⟨by rw [HU.out]; rfl, b1⟩

set_option maxHeartbeats 1000000 in
theorem never_calls (w : World) (v : Value) (t : List (List Rat)) (E : Elem) (hE : ∀ w w' v q, E w v q → Later w w' → E w' v q) (h : Tab E w v t) (hl : t.length ≤ 1000000000) (hl2 : ∀ r ∈ t, r.length ≤ 1000000000) (f : FuncId) (hf : Enters f) (p : Rat → Bool)
    (hp : ∀ W xv x, Later w W → E W xv x → Calls Tryz.prog f #[xv] W (RetV W (.bool (p x)))) (u : Bool) (hu : (!t.any fun r => r.any p) = u) :
    Calls Tryz.prog 99 #[.func (.func f) #[] #[], v] w (RetV w (.bool u)) := by
  have H := hide h; have HP := hide hp; have HL2 := hide hl2
  obtain ⟨A1, n1, c1, rfl, -⟩ := h.form
  obtain ⟨u2, hu2⟩ : ∃ u, (t.any fun r => r.any p) = u := ⟨_, rfl⟩
  have HU := hide hu; have HU2 := hide hu2
  clear h hp hu hu2
  obtain ⟨W0, hW0⟩ : ∃ W0, W0 = w.alloc (Obj.cells #[Value.func (.func f) #[] #[]] 39) := ⟨_, rfl⟩
  obtain ⟨hb0, r1, hsz0⟩ := boxes1 w [.func (.func f) #[] #[]] 39 hW0
  have R1 := hide r1; have B0' := hide hb0; have HW0 := hide hW0
  clear r1 hb0 hW0
  go_enter Tryz.func99, Tryz.ntmps99
  go_upto_region 1 with fail
  rw [← HW0.out]
  go_wp2_with fail
  refine (contf1_calls W0 _ t E hE (H.out.later hE B0'.out) hl _ ⟨fun _ _ => by kernel_rfl⟩ w.heap.size (fun r => r.any p) (fun W rv row hW hr hm => never1_calls W rv row E hE hr (HL2.out row hm) f hf w.heap.size (R1.out.later hW) p (fun W' xv x hW' hx _ => HP.out W' xv x (B0'.out.trans (hW.trans hW')) hx)) u2 HU2.out).mono ?_
  rintro e w1 ⟨rfl, b1⟩
  have HL := hide (B0'.out.trans b1)
  clear b1
  go_wp2_with fail
  go_ret
  exact ⟨by rw [← HU.out, HU2.out]; rfl, HL.out⟩

/-- a problem in standard form that came in, or was made: its numbers, and whether all may be -/
def StdIn (w : World) (vA vB vC : Value) (k : Nat) (A : List (List Rat)) (B C : List Rat) (ok : Bool) : Prop :=
  ∃ fA fB fC, Tab (ERaw k) w vA A ∧ Rats (ERaw k) w vB B ∧ Rats (ERaw k) w vC C ∧ Tab EFlag w vA fA ∧ Rats EFlag w vB fB ∧ Rats EFlag w vC fC ∧ ok = (allFF fA && (allF fB && allF fC)) ∧
    k ≤ 1000 ∧ (∀ r ∈ A, r.length ≤ 1000) ∧ (∀ r ∈ fA, r.length ≤ 1000) ∧ A.length ≤ 1000 ∧ B.length ≤ 1000 ∧ C.length ≤ 1000
section
variable {w w' : World} {vA vB vC : Value} {k : Nat} {A : List (List Rat)} {B C : List Rat} {ok : Bool}
theorem StdIn.later (h : StdIn w vA vB vC k A B C ok) (hb : Later w w') : StdIn w' vA vB vC k A B C ok := by
  obtain ⟨fA, fB, fC, h1, h2, h3, h4, h5, h6, h7⟩ := h
  exact ⟨fA, fB, fC, h1.later ERaw.later hb, h2.later ERaw.later hb, h3.later ERaw.later hb, h4.later EFlag.later hb, h5.later EFlag.later hb, h6.later EFlag.later hb, h7⟩
theorem StdIn.form (h : StdIn w vA vB vC k A B C ok) : ∃ A1 n1 c1 A2 n2 c2 A3 n3 c3, vA = .slice A1 n1 c1 ∧ vB = .slice A2 n2 c2 ∧ vC = .slice A3 n3 c3 ∧ n1 = A.length ∧ n2 = B.length ∧ n3 = C.length := by
  obtain ⟨fA, fB, fC, h1, h2, h3, -⟩ := h
  obtain ⟨A1, n1, c1, rfl, e1, -⟩ := h1.form
  obtain ⟨A2, n2, c2, rfl, e2, -⟩ := h2.form
  obtain ⟨A3, n3, c3, rfl, e3, -⟩ := h3.form
  exact ⟨_, _, _, _, _, _, _, _, _, rfl, rfl, rfl, e1, e2, e3⟩
theorem StdIn.tab (h : StdIn w vA vB vC k A B C ok) : Tab (ERaw k) w vA A := by obtain ⟨fA, fB, fC, h1, -⟩ := h; exact h1
theorem StdIn.b (h : StdIn w vA vB vC k A B C ok) : Rats (ERaw k) w vB B := by obtain ⟨fA, fB, fC, -, h1, -⟩ := h; exact h1
theorem StdIn.c (h : StdIn w vA vB vC k A B C ok) : Rats (ERaw k) w vC C := by obtain ⟨fA, fB, fC, -, -, h1, -⟩ := h; exact h1
theorem StdIn.sizes (h : StdIn w vA vB vC k A B C ok) : k ≤ 1000 ∧ (∀ r ∈ A, r.length ≤ 1000) ∧ A.length ≤ 1000 ∧ B.length ≤ 1000 ∧ C.length ≤ 1000 := by
  obtain ⟨fA, fB, fC, -, -, -, -, -, -, -, h1, h2, -, h3⟩ := h; exact ⟨h1, h2, h3⟩
theorem right_std (h : StdIn w vA vB vC k A B C ok) : Calls Tryz.prog 97 #[.agg #[vA, vB, vC]] w (RetV w (.bool (rightB A B C ok))) := by
  obtain ⟨fA, fB, fC, h1, h2, h3, h4, h5, h6, rfl, h7, h8, h9, h10, h11, h12⟩ := h
  exact right_calls w vA vB vC A fA B C fB fC k h1 h2 h3 h4 h5 h6 (by omega) (fun r hr => by have := h8 r hr; omega) (fun r hr => by have := h9 r hr; omega) (by omega) (by omega) (by omega)
theorem rightB_facts (h : rightB A B C ok = true) : A.length ≤ 64 ∧ C.length ≤ 80 ∧ B.length = A.length ∧ (∀ r ∈ A, r.length = C.length) ∧ ok = true ∧ ∀ x ∈ B, ¬ x < 0 := by
  unfold rightB rectB at h
  simp only [Bool.and_eq_true, decide_eq_true_eq, List.all_eq_true, Bool.not_eq_true', List.any_eq_false] at h
  obtain ⟨h1, h2, h3, h4, h5, h6⟩ := h
  exact ⟨h1, h2, h3, h4, h5, fun x hx => by simpa using h6 x hx⟩
end
end Go.Proofs.YthncinngkfflgaaGreat


/- Proofs of standard forms: what comes, and what fulfils. -/
set_option linter.unusedVariables false
set_option linter.unusedSimpArgs false
set_option maxRecDepth 100000
namespace Go.Proofs.YthncinngkfflgaaGreat
open Go.RowKit Go.Shelf
attribute [local go_sem ↓] Go.wp_at_zero Go.wp_at_succ

theorem sized_dotL {a b : List Rat} {k m : Nat} (ha : ∀ q ∈ a, Sized q k) (hb : ∀ q ∈ b, Sized q m) : Sized (dotL a b) (a.length * (k + m + 1) + 1) := by
  refine (sized_sumR (sized_zip ha hb)).mono ?_
  rw [List.length_zipWith]
  exact Nat.add_le_add_right (Nat.mul_le_mul_right _ (Nat.min_le_left _ _)) _
/-- whether each row by numbers is what a list has -/
def comesB (A : List (List Rat)) (y b : List Rat) : Bool := (List.zip A b).all fun p => decide (dotL p.1 y = p.2)
theorem comesB_true {A : List (List Rat)} {y b : List Rat} (h : ∀ (i : Nat) r x, A[i]? = some r → b[i]? = some x → dotL r y = x) : comesB A y b = true := by
  unfold comesB
  rw [List.all_eq_true]
  intro p hp
  obtain ⟨i, hi⟩ := List.getElem?_of_mem hp
  rw [List.getElem?_zip_eq_some] at hi
  simpa using h i p.1 p.2 hi.1 hi.2
theorem comesB_false {A : List (List Rat)} {y b : List Rat} {i : Nat} {r : List Rat} {x : Rat} (h1 : A[i]? = some r) (h2 : b[i]? = some x) (h : ¬ dotL r y = x) : comesB A y b = false := by
  unfold comesB
  rw [List.all_eq_false]
  exact ⟨(r, x), List.mem_of_getElem? (List.getElem?_zip_eq_some.2 ⟨h1, h2⟩), by simpa using h⟩
/-- whether numbers fulfil a problem -/
def fulfB (A : List (List Rat)) (B C : List Rat) (ok : Bool) (y : List Rat) : Bool := rightB A B C ok && (decide (y.length = C.length) && (!(y.any fun x => decide (x < 0)) && comesB A y B))

set_option maxHeartbeats 8000000 in
theorem comes_calls (w : World) (vA vB vC vy vb : Value) (k m p : Nat) (A : List (List Rat)) (B C y b : List Rat) (ok : Bool) (hs : StdIn w vA vB vC k A B C ok) (hy : Rats (ERaw m) w vy y) (hb : Rats (ERaw p) w vb b) (hm : m ≤ 1000) (hp : p ≤ 1000)
    (hr : ∀ r ∈ A, r.length = y.length) (hyl : y.length ≤ 1000) (hbl : b.length = A.length) :
    Calls Tryz.prog 101 #[.agg #[vA, vB, vC], vy, vb] w (RetV w (.bool (comesB A y b))) := by
  have HS := hide hs; have HY := hide hy; have HB := hide hb; have HRL := hide hr; have HSZ := hide hs.sizes
  obtain ⟨A1, n1, c1, A2, n2, c2, A3, n3, c3, rfl, rfl, rfl, hn1, hn2, hn3⟩ := hs.form
  obtain ⟨A4, n4, c4, rfl, hn4, -⟩ := hy.form
  obtain ⟨A5, n5, c5, rfl, hn5, -⟩ := hb.form
  have hn51 : n5 = n1 := by omega
  have hk1 : n1 ≤ 1000 := by have := hs.sizes; omega
  have HN1 := hide hn1; have HN5 := hide hn5; have HYL := hide hyl
  clear hs hy hb hr hn1 hn2 hn3 hn4 hn5 hyl hbl
  subst hn51
  obtain ⟨W0, hW0⟩ : ∃ W0, W0 = w.alloc (Obj.cells #[Value.slice A1 n5 c1, Value.slice A2 n2 c2, Value.slice A3 n3 c3] 25) := ⟨_, rfl⟩
  obtain ⟨hb0, r1, hsz0⟩ := boxes1 w [.slice A1 n5 c1, .slice A2 n2 c2, .slice A3 n3 c3] 25 hW0
  have B0 := hide hb0; have HW0 := hide hW0
  have d1 := r1.cell (i := 0) rfl; have d2 := r1.cell (i := 1) rfl; have d3 := r1.cell (i := 2) rfl
  clear r1 hb0 hW0 hsz0
  go_enter Tryz.func101, Tryz.ntmps101
  go_upto_region 1 with fail
  rw [← HW0.out]
  go_wp2_with fail
  clear d1 d2 d3
  go_loopw [14] (fun i wr => ∃ j : Nat, j ≤ n5 ∧ i = .int .i64 (j : Int) ∧ Hid (∀ i r x, i < j → A[i]? = some r → b[i]? = some x → dotL r y = x) ∧ Later w wr) (fun i _ => (n5 - intOf i).toNat)
  case atStart => exact ⟨0, by omega, rfl, hide fun i r x hi => by omega, B0.out⟩
  case round =>
    obtain ⟨j, hj, rfl, hpre, hL⟩ := hrel
    by_cases hjn : j < n5
    · obtain ⟨row, hrow⟩ : ∃ row, A[j]? = some row := ⟨A[j]'(by have := HN1.out; omega), List.getElem?_eq_getElem _⟩
      obtain ⟨z, hz⟩ : ∃ z, b[j]? = some z := ⟨b[j]'(by have := HN5.out; omega), List.getElem?_eq_getElem _⟩
      obtain ⟨b1, off1, A6, n6, c6, rfl, x1, hrr⟩ := (HS.out.later hL).tab.at_ hrow
      have HR := hide hrr; have HROW := hide hrow; have HX := hide hz
      have hrl := HRL.out row (List.mem_of_getElem? hrow)
      have HRL1 := hide hrl
      have HL := hide hL
      have hj0 : (0 : Int) ≤ (j : Int) := by omega
      have hj1 : (j : Int) < n5 := by omega
      clear hrr hrow hz hL hrl
      go_wp2_with fail
      have hsz9 : (row.length + 1) * (k + m + 4) ≤ 50000000 := by
        have h1 := HYL.out; have h2 := HRL1.out; have h3 := HSZ.out.1
        have h4 : (row.length + 1) * (k + m + 4) ≤ 1001 * 2004 := Nat.mul_le_mul (by omega) (by omega)
        omega
      ((with_reducible refine (dot_calls wr _ _ row y k m HR.out (HY.out.later ERaw.later HL.out) HRL1.out hsz9).mono ?_); rintro e w9 ⟨v9, ok9, rfl, ⟨o9, rfl⟩, b9⟩)
      obtain ⟨s9, P9, q9, e9, P9', q9', e9', rfl, o9⟩ := o9.open_; have O9 := hide o9; clear o9
      go_upto_region 5 with fail
      obtain ⟨W9, hW9⟩ : ∃ W9, W9 = w9.alloc (Obj.cells #[Value.bool s9, Value.slice P9 q9 e9, Value.bool false, Value.slice P9' q9' e9'] 37) := ⟨_, rfl⟩
      obtain ⟨g9, hg9⟩ : ∃ g9, g9 = w9.heap.size := ⟨_, rfl⟩
      have hb : Later w9 W9 := by rw [hW9]; exact (Later.refl _).alloc _
      have hr : Row W9 g9 37 [.bool s9, .slice P9 q9 e9, .bool false, .slice P9' q9' e9'] := by rw [hW9, hg9]; exact Row.new _ _ _
      rw [← hW9, ← hg9]
      have HL9 := hide ((HL.out.trans b9).trans hb)
      have hd : Later W9 W9.drew := (Later.refl W9).drew
      obtain ⟨b2, off2, sx, X, nx, cx, sx', X', nx', cx', rfl, y1, y2, y3, y4, ey⟩ := (HB.out.later ERaw.later (HL9.out.trans hd)).at_ HX.out
      have HBR : Hid (RawR W9.drew (.agg #[.bool sx, .slice X nx cx, .bool sx', .slice X' nx' cx']) z p) := hide ey
      have HDR : Hid (RawR W9.drew (.agg #[.bool s9, .slice P9 q9 e9, .bool false, .slice P9' q9' e9']) (dotL row y) 3100000) := hide (OwnR.raw (OwnR.later O9.out (hb.trans hd)) ((sized_dotL HR.out.sized HY.out.sized).mono (by
        have h1 := HYL.out; have h2 := HRL1.out; have h3 := HSZ.out.1
        have h4 : row.length * (k + 1 + (m + 1) + 1) ≤ 1000 * 2003 := Nat.mul_le_mul (by omega) (by omega)
        omega)))
      have hr9 := hr.later hd
      have HT1 : Hid (∀ w', Later W9.drew w' → w'.cell? ⟨g9, 0, none⟩ = some (.bool s9) ∧ w'.cell? ⟨g9, 1, none⟩ = some (.slice P9 q9 e9) ∧ w'.cell? ⟨g9, 2, none⟩ = some (.bool false) ∧ w'.cell? ⟨g9, 3, none⟩ = some (.slice P9' q9' e9') ∧ w'.cell? ⟨b2, off2 + j * 4, none⟩ = some (.bool sx) ∧ w'.cell? ⟨b2, off2 + j * 4 + 1, none⟩ = some (.slice X nx cx) ∧ w'.cell? ⟨b2, off2 + j * 4 + 2, none⟩ = some (.bool sx') ∧ w'.cell? ⟨b2, off2 + j * 4 + 3, none⟩ = some (.slice X' nx' cx')) := hide fun w' hb => ⟨(hr9.later hb).cell rfl, (hr9.later hb).cell rfl, (hr9.later hb).cell rfl, (hr9.later hb).cell rfl, Later.cell hb y1, Later.cell hb y2, Later.cell hb y3, Later.cell hb y4⟩
      obtain ⟨cz, hcz⟩ : ∃ cz, cmpQ (dotL row y) z = cz := ⟨_, rfl⟩
      have HCZ := hide hcz
      have hmx : Tryz.prog.follows .mixedOrders = true := by kernel_rfl
      clear hcz ey y1 y2 y3 y4 hr9 hb hr hW9 hg9 b9 hd
      refine wp_region_N (fun w' => w'.cell? ⟨g9, 0, none⟩ = some (.bool s9) ∧ w'.cell? ⟨g9, 1, none⟩ = some (.slice P9 q9 e9) ∧ w'.cell? ⟨g9, 2, none⟩ = some (.bool false) ∧ w'.cell? ⟨g9, 3, none⟩ = some (.slice P9' q9' e9') ∧ w'.cell? ⟨b2, off2 + j * 4, none⟩ = some (.bool sx) ∧ w'.cell? ⟨b2, off2 + j * 4 + 1, none⟩ = some (.slice X nx cx) ∧ w'.cell? ⟨b2, off2 + j * 4 + 2, none⟩ = some (.bool sx') ∧ w'.cell? ⟨b2, off2 + j * 4 + 3, none⟩ = some (.slice X' nx' cx')) [] hmx (HT1.out _ (Later.refl _)) (fun hHeld => ?_)
      refine wpAnyN_takeD (some 25) (by rfl) (i := 0) (oi := _) (v := ?_) rfl (by kernel_rfl) (by kernel_rfl) (by kernel_rfl) (by kernel_rfl) (fun _ _ _ h => h) (Or.inl ⟨by rfl, ?_⟩) (by assumption) ?_
      rotate_left
      · intro w hSw; (try dsimp only at hSw); go_simp
        first | done | with_reducible rfl
      try simp only [Act.put, List.setIfInBounds_toArray, List.set_cons_zero, List.set_cons_succ]
      refine wpAnyN_takeD (some 26) (by rfl) (i := 1) (oi := _) (v := ?_) rfl (by kernel_rfl) (by kernel_rfl) (by kernel_rfl) (by kernel_rfl) (fun _ _ _ h => h) (Or.inl ⟨by rfl, ?_⟩) (by assumption) ?_
      rotate_left
      · intro w hSw; (try dsimp only at hSw); go_simp
        first | done | with_reducible rfl
      try simp only [Act.put, List.setIfInBounds_toArray, List.set_cons_zero, List.set_cons_succ]
      refine wpAnyN_takeD (some 27) (by rfl) (i := 2) (oi := _) (v := ?_) rfl (by kernel_rfl) (by kernel_rfl) (by kernel_rfl) (by kernel_rfl) (fun _ _ _ h => h) (Or.inl ⟨by rfl, ?_⟩) (by assumption) ?_
      rotate_left
      · intro w hSw; (try dsimp only at hSw); go_simp
        first | done | with_reducible rfl
      try simp only [Act.put, List.setIfInBounds_toArray, List.set_cons_zero, List.set_cons_succ]
      refine wpAnyN_takeD (some 28) (by rfl) (i := 3) (oi := _) (v := ?_) rfl (by kernel_rfl) (by kernel_rfl) (by kernel_rfl) (by kernel_rfl) (fun _ _ _ h => h) (Or.inl ⟨by rfl, ?_⟩) (by assumption) ?_
      rotate_left
      · intro w hSw; (try dsimp only at hSw); go_simp
        first | done | with_reducible rfl
      try simp only [Act.put, List.setIfInBounds_toArray, List.set_cons_zero, List.set_cons_succ]
      refine wpAnyN_takeD (some 29) (by rfl) (i := 4) (oi := _) (v := ?_) rfl (by kernel_rfl) (by kernel_rfl) (by kernel_rfl) (by kernel_rfl) (fun _ _ _ h => h) (Or.inl ⟨by rfl, ?_⟩) (by assumption) ?_
      rotate_left
      · intro w hSw; (try dsimp only at hSw); go_simp
        first | done | with_reducible rfl
      try simp only [Act.put, List.setIfInBounds_toArray, List.set_cons_zero, List.set_cons_succ]
      refine wpAnyN_takeD (some 30) (by rfl) (i := 5) (oi := _) (v := ?_) rfl (by kernel_rfl) (by kernel_rfl) (by kernel_rfl) (by kernel_rfl) (fun _ _ _ h => h) (Or.inl ⟨by rfl, ?_⟩) (by assumption) ?_
      rotate_left
      · intro w hSw; (try dsimp only at hSw); go_simp
        first | done | with_reducible rfl
      try simp only [Act.put, List.setIfInBounds_toArray, List.set_cons_zero, List.set_cons_succ]
      refine wpAnyN_takeD (some 31) (by rfl) (i := 6) (oi := _) (v := ?_) rfl (by kernel_rfl) (by kernel_rfl) (by kernel_rfl) (by kernel_rfl) (fun _ _ _ h => h) (Or.inl ⟨by rfl, ?_⟩) (by assumption) ?_
      rotate_left
      · intro w hSw; (try dsimp only at hSw); go_simp
        first | done | with_reducible rfl
      try simp only [Act.put, List.setIfInBounds_toArray, List.set_cons_zero, List.set_cons_succ]
      refine wpAnyN_takeD (some 32) (by rfl) (i := 7) (oi := _) (v := ?_) rfl (by kernel_rfl) (by kernel_rfl) (by kernel_rfl) (by kernel_rfl) (fun _ _ _ h => h) (Or.inl ⟨by rfl, ?_⟩) (by assumption) ?_
      rotate_left
      · intro w hSw; (try dsimp only at hSw); go_simp
        first | done | with_reducible rfl
      try simp only [Act.put, List.setIfInBounds_toArray, List.set_cons_zero, List.set_cons_succ]
      refine wpAnyN_ready (rs := [8]) (by kernel_rfl) (by simp) ?_
      refine AllReadyN.held rfl (by rfl) (fun K hK => ?_) AllReadyN.nil
      go_simp
      ((with_reducible refine (rcmp_calls _ _ _ (dotL row y) z 3100000 p HDR.out HBR.out (by omega)).mono ?_); rintro e w108 ⟨rfl, b108⟩; rw [HCZ.out])
      refine hK.out _ _ ?_ (fun hHeld => ?_)
      · exact HT1.out _ b108
      clear hK K
      try simp only [Act.put, List.setIfInBounds_toArray, List.set_cons_zero, List.set_cons_succ]
      refine wpAnyN_takeD (some 34) (by rfl) (i := 9) (oi := _) (v := ?_) rfl (by kernel_rfl) (by kernel_rfl) (by kernel_rfl) (by kernel_rfl) (fun _ _ _ h => h) (Or.inl ⟨by rfl, ?_⟩) (by assumption) ?_
      rotate_left
      · intro w hSw; (try dsimp only at hSw); go_simp
        first | done | with_reducible rfl
      try simp only [Act.put, List.setIfInBounds_toArray, List.set_cons_zero, List.set_cons_succ]
      refine wpAnyN_takeD (some 35) (by rfl) (i := 10) (oi := _) (v := ?_) rfl (by kernel_rfl) (by kernel_rfl) (by kernel_rfl) (by kernel_rfl) (fun _ _ _ h => h) (Or.inl ⟨by rfl, ?_⟩) (by assumption) ?_
      rotate_left
      · intro w hSw; (try dsimp only at hSw); go_simp
        first | done | with_reducible rfl
      try simp only [Act.put, List.setIfInBounds_toArray, List.set_cons_zero, List.set_cons_succ]
      refine wpAnyN_done (by kernel_rfl) ?_ _
      have hL8 := hide (HL9.out.drew.trans b108)
      clear hHeld b108
      by_cases hz : cz = 0
      · have tz : (cz != 0) = false := by simp [hz]
        have tz2 : (cz == 0) = true := by simp [hz]
        have HN : Hid (∀ i r x, i < j + 1 → A[i]? = some r → b[i]? = some x → dotL r y = x) := hide fun i r x hi hr hx => by
          by_cases hij : i < j
          · exact hpre.out i r x hij hr hx
          · obtain rfl : i = j := by omega
            rw [HROW.out] at hr; injection hr with hr; rw [HX.out] at hx; injection hx with hx
            have := cmp_eq0 HCZ.out
            rw [tz2] at this
            rw [← hr, ← hx]; simpa using this.symm
        subst hz
        go_wp2_with fail
        exact ⟨⟨j+1, by omega, by go_num, HN, hL8.out⟩, by simp [intOf]; omega⟩
      · have tz : (cz != 0) = true := by simp [hz]
        have tz2 : (cz == 0) = false := by simp [hz]
        have HF : Hid (comesB A y b = false) := hide (by
          refine comesB_false HROW.out HX.out ?_
          have := cmp_eq0 HCZ.out
          rw [tz2] at this
          simpa using this.symm)
        go_wp2_with fail
        go_ret
        exact ⟨by rw [HF.out]; rfl, hL8.out⟩

    · obtain rfl : n5 = j := by omega
      have HF : Hid (comesB A y b = true) := hide (comesB_true fun i r x hr hx => hpre.out i r x (by rw [HN1.out]; exact (List.getElem?_eq_some_iff.1 hr).1) hr hx)
      have HL := hide hL
      clear hL
      go_wp2_with fail
      go_ret
      exact ⟨by rw [HF.out]; rfl, HL.out⟩
end Go.Proofs.YthncinngkfflgaaGreat


/- Proofs of standard forms: what fulfils. -/
set_option linter.unusedVariables false
set_option linter.unusedSimpArgs false
set_option maxRecDepth 100000
namespace Go.Proofs.YthncinngkfflgaaGreat
open Go.RowKit Go.Shelf
attribute [local go_sem ↓] Go.wp_at_zero Go.wp_at_succ

theorem tab_one {E : Elem} {w : World} {g : Nat} {A : Option Addr} {n c : Nat} {p : List Rat} (hr : Row w g 23 [.slice A n c]) (h : Rats E w (.slice A n c) p) : Tab E w (.slice (some ⟨g, 0, none⟩) 1 1) [p] := by
  refine ⟨_, 1, rfl, Nat.le_refl _, by decide, fun i row hi => ?_⟩
  match i, hi with
  | 0, hi =>
    simp at hi; subst hi
    exact ⟨g, 0, A, n, c, rfl, hr.cell rfl, h⟩
  | i + 1, hi => simp at hi

set_option maxHeartbeats 4000000 in
theorem fulfils_calls (w : World) (vA vB vC vy : Value) (k m : Nat) (A : List (List Rat)) (B C y : List Rat) (ok : Bool) (hs : StdIn w vA vB vC k A B C ok) (hy : Rats (ERaw m) w vy y) (hm : m ≤ 1000) (hyl : y.length ≤ 1000) :
    Calls Tryz.prog 46 #[.agg #[vA, vB, vC], vy] w (RetV w (.bool (fulfB A B C ok y))) := by
  have HS := hide hs; have HSZ := hide hs.sizes
  obtain ⟨A1, n1, c1, A2, n2, c2, A3, n3, c3, rfl, rfl, rfl, hn1, hn2, hn3⟩ := hs.form
  have HN1 := hide hn1; have HN2 := hide hn2; have HN3 := hide hn3
  clear hs hn1 hn2 hn3
  have HY := hide hy
  obtain ⟨A4, n4, c4, rfl, hn4, -⟩ := hy.form
  have HN4 := hide hn4; have HYL := hide hyl; have HYS := hide hy.sized
  clear hy hn4 hyl
  obtain ⟨u1, hu1⟩ : ∃ u, rightB A B C ok = u := ⟨_, rfl⟩
  have HU1 := hide hu1
  clear hu1
  obtain ⟨W0, hW0⟩ : ∃ W0, W0 = w.alloc (Obj.cells #[Value.slice A1 n1 c1, Value.slice A2 n2 c2, Value.slice A3 n3 c3] 25) := ⟨_, rfl⟩
  obtain ⟨hb0, r1, hsz0⟩ := boxes1 w [.slice A1 n1 c1, .slice A2 n2 c2, .slice A3 n3 c3] 25 hW0
  have B0 := hide hb0; have HW0 := hide hW0; have R0 := hide r1
  have d1 := r1.cell (i := 0) rfl; have d2 := r1.cell (i := 1) rfl; have d3 := r1.cell (i := 2) rfl
  clear r1 hb0 hW0 hsz0
  go_enter Tryz.func46, Tryz.ntmps46
  go_upto_region 1 with fail
  rw [← HW0.out]
  go_wp2_with fail
  clear d1 d2 d3
  have hrg := right_std (HS.out.later B0.out)
  rw [HU1.out] at hrg
  ((with_reducible refine hrg.mono ?_); rintro e w1 ⟨rfl, b1⟩)
  have HL1 := hide b1
  have hrs := R0.out.later HL1.out
  have d1 := hrs.cell (i := 0) rfl; have d2 := hrs.cell (i := 1) rfl; have d3 := hrs.cell (i := 2) rfl
  clear hrs
  clear b1 hrg
  cases u1 with
  | false =>
    go_wp2_with fail
    go_ret
    exact ⟨by unfold fulfB; rw [HU1.out]; rfl, B0.out.trans HL1.out⟩
  | true =>
  have HRF := hide (rightB_facts HU1.out)
  by_cases hlen : n4 = n3
  rotate_left
  · have t1 : ((n4 : Int) == (n3 : Int)) = false := by simp; omega
    go_wp2_with fail
    go_ret
    exact ⟨by unfold fulfB; rw [HU1.out, show decide (y.length = C.length) = false by simp; rw [← HN4.out, ← HN3.out]; exact hlen]; rfl, B0.out.trans HL1.out⟩
  have HLEN : Hid (y.length = C.length) := hide (by rw [← HN4.out, ← HN3.out]; exact hlen)
  have t1 : ((n4 : Int) == (n3 : Int)) = true := by simp; omega
  clear hlen
  go_wp2_with fail
  obtain ⟨W2, hW2⟩ : ∃ W2, W2 = w1.alloc (Obj.cells #[Value.slice A4 n4 c4] 23) := ⟨_, rfl⟩
  obtain ⟨g2, hg2⟩ : ∃ g2, g2 = w1.heap.size := ⟨_, rfl⟩
  have hb : Later w1 W2 := by rw [hW2]; exact (Later.refl _).alloc _
  have hr : Row W2 g2 23 [.slice A4 n4 c4] := by rw [hW2, hg2]; exact Row.new _ _ _
  rw [← hW2, ← hg2]
  have HL2 := hide (HL1.out.trans hb)
  have HT2 := hide (tab_one hr (HY.out.later ERaw.later (B0.out.trans HL2.out)))
  have hrs := R0.out.later HL2.out
  have d1 := hrs.cell (i := 0) rfl; have d2 := hrs.cell (i := 1) rfl; have d3 := hrs.cell (i := 2) rfl
  clear hrs
  clear hb hr hW2 hg2
  obtain ⟨u2, hu2⟩ : ∃ u, (!([y].any fun r => r.any fun x => decide (x < 0))) = u := ⟨_, rfl⟩
  have HU2 := hide hu2
  have HU2' : Hid ((!y.any fun x => decide (x < 0)) = u2) := hide (by rw [← hu2]; simp)
  clear hu2
  refine (never_calls W2 _ [y] (ERaw m) ERaw.later HT2.out (by simp) (fun r hr => by simp at hr; rw [hr]; have := HYL.out; omega) _ ⟨fun _ _ => by kernel_rfl⟩ (fun x => decide (x < 0)) (fun W xv x _ hx => below_calls W xv x m hx (by omega)) u2 HU2.out).mono ?_
  rintro e w3 ⟨rfl, b3⟩
  have HL3 := hide (HL2.out.trans b3)
  have hrs := R0.out.later HL3.out
  have d1 := hrs.cell (i := 0) rfl; have d2 := hrs.cell (i := 1) rfl; have d3 := hrs.cell (i := 2) rfl
  clear hrs
  clear b3
  cases u2 with
  | false =>
    go_wp2_with fail
    go_ret
    exact ⟨by unfold fulfB; rw [HU1.out, HU2'.out, show decide (y.length = C.length) = true by simpa using HLEN.out]; rfl, B0.out.trans HL3.out⟩
  | true =>
  go_wp2_with fail
  clear d1 d2 d3
  refine (comes_calls w3 _ _ _ _ _ k m k A B C y B ok (HS.out.later (B0.out.trans HL3.out)) (HY.out.later ERaw.later (B0.out.trans HL3.out)) (HS.out.later (B0.out.trans HL3.out)).b hm HSZ.out.1 (fun r hr => by rw [HLEN.out]; exact HRF.out.2.2.2.1 r hr) HYL.out HRF.out.2.2.1).mono ?_
  rintro e w4 ⟨rfl, b4⟩
  have HL4 := hide (HL3.out.trans b4)
  clear b4
  go_wp2_with fail
  go_ret
  exact ⟨by unfold fulfB; rw [HU1.out, HU2'.out, show decide (y.length = C.length) = true by simpa using HLEN.out]; rfl, B0.out.trans HL4.out⟩
end Go.Proofs.YthncinngkfflgaaGreat
