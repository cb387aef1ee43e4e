import Derived.Test.YthncinngkfflgaaGreatM14
import Derived.Test.YthncinngkfflgaaGreatM12
import Derived.Test.YthncinngkfflgaaGreatM15
import Derived.ProofKit
import Derived.Deep.Slices

/- Tables whose rows, or columns, stand the other way round; a row so many times; sums of products. No program is in sight here. -/
set_option linter.unusedVariables false
set_option linter.unusedSimpArgs false
namespace Go.Proofs.YthncinngkfflgaaGreat

theorem sumTo_front (n : Nat) (f : Nat → Rat) : sumTo (n+1) f = f 0 + sumTo n (fun k => f (k+1)) := by
  induction n with
  | zero => simp only [sumTo]; grind
  | succ n ih => rw [sumTo, ih]; simp only [sumTo]; grind
theorem sumTo_rev (n : Nat) (f : Nat → Rat) : sumTo n (fun k => f (n-1-k)) = sumTo n f := by
  induction n generalizing f with
  | zero => rfl
  | succ n ih =>
    rw [sumTo_front]
    have h : sumTo n (fun k => f (n+1-1-(k+1))) = sumTo n f := by
      rw [← ih f]; exact sumTo_congr (fun k hk => by congr 1; omega)
    rw [h, show n+1-1-0 = n by omega]
    simp only [sumTo]; grind

theorem sing_iff (n : Nat) (M : Nat → Nat → Rat) : SingF n M ↔ ∃ z : Nat → Rat, (∃ k, k < n ∧ z k ≠ 0) ∧ SolF n M (fun _ => 0) z := Iff.rfl

theorem sol_rows1 {n : Nat} {M N : Nat → Nat → Rat} {b c x : Nat → Rat} (h : ∀ i k, i < n → k < n → N i k = M (n-1-i) k) (hb : ∀ i, i < n → c i = b (n-1-i)) (hx : SolF n M b x) : SolF n N c x := by
  intro i hi
  rw [sumTo_congr (g := fun k => M (n-1-i) k * x k) (fun k hk => by rw [h i k hi hk]), hx (n-1-i) (by omega), hb i hi]
theorem sol_rows {n : Nat} {M N : Nat → Nat → Rat} {b c x : Nat → Rat} (h : ∀ i k, i < n → k < n → N i k = M (n-1-i) k) (hb : ∀ i, i < n → c i = b (n-1-i)) : SolF n N c x ↔ SolF n M b x := by
  refine ⟨sol_rows1 (fun i k hi hk => ?_) (fun i hi => ?_), sol_rows1 h hb⟩
  · rw [h (n-1-i) k (by omega) hk, show n-1-(n-1-i) = i by omega]
  · rw [hb (n-1-i) (by omega), show n-1-(n-1-i) = i by omega]
theorem sing_rows {n : Nat} {M N : Nat → Nat → Rat} (h : ∀ i k, i < n → k < n → N i k = M (n-1-i) k) : SingF n N ↔ SingF n M := by
  rw [sing_iff, sing_iff]
  constructor
  · rintro ⟨z, hz, hs⟩; exact ⟨z, hz, (sol_rows (b := fun _ => 0) h (fun _ _ => rfl)).1 hs⟩
  · rintro ⟨z, hz, hs⟩; exact ⟨z, hz, (sol_rows (b := fun _ => 0) h (fun _ _ => rfl)).2 hs⟩

theorem sol_cols {n : Nat} {M N : Nat → Nat → Rat} {b x : Nat → Rat} (h : ∀ i k, i < n → k < n → N i k = M i (n-1-k)) : SolF n N b x ↔ SolF n M b (fun k => x (n-1-k)) := by
  have key : ∀ i, i < n → sumTo n (fun k => N i k * x k) = sumTo n (fun k => M i k * x (n-1-k)) := fun i hi => by
    rw [← sumTo_rev n (fun k => M i k * x (n-1-k))]
    exact sumTo_congr fun k hk => by rw [h i k hi hk, show n-1-(n-1-k) = k by omega]
  constructor
  · intro hs i hi; show sumTo n (fun k => M i k * x (n-1-k)) = b i; rw [← key i hi]; exact hs i hi
  · intro hs i hi; rw [key i hi]; exact hs i hi
theorem sing_cols {n : Nat} {M N : Nat → Nat → Rat} (h : ∀ i k, i < n → k < n → N i k = M i (n-1-k)) : SingF n N ↔ SingF n M := by
  rw [sing_iff, sing_iff]
  constructor
  · rintro ⟨z, ⟨k, hk, hz⟩, hs⟩
    exact ⟨fun k => z (n-1-k), ⟨n-1-k, by omega, by show z (n-1-(n-1-k)) ≠ 0; rw [show n-1-(n-1-k) = k by omega]; exact hz⟩, (sol_cols h).1 hs⟩
  · rintro ⟨z, ⟨k, hk, hz⟩, hs⟩
    refine ⟨fun k => z (n-1-k), ⟨n-1-k, by omega, by show z (n-1-(n-1-k)) ≠ 0; rw [show n-1-(n-1-k) = k by omega]; exact hz⟩, (sol_cols h).2 ?_⟩
    intro i hi
    rw [sumTo_congr (g := fun k => M i k * z k) (fun k hk => by show M i k * z (n-1-(n-1-k)) = M i k * z k; rw [show n-1-(n-1-k) = k by omega])]
    exact hs i hi

theorem sol_scaled {n i : Nat} {M N : Nat → Nat → Rat} {b c x : Nat → Rat} {q : Rat} (hq : q ≠ 0) (h : ∀ a k, a < n → k < n → N a k = if a = i then q * M i k else M a k) (hc : ∀ a, a < n → c a = if a = i then b i * q else b a) :
    SolF n N c x ↔ SolF n M b x := by
  have key : ∀ a, a < n → sumTo n (fun k => N a k * x k) = if a = i then q * sumTo n (fun k => M i k * x k) else sumTo n (fun k => M a k * x k) := fun a ha => by
    by_cases e : a = i
    · subst e
      rw [if_pos rfl, sumTo_congr (g := fun k => q * (M a k * x k) + 0 * 0) (fun k hk => by rw [h a k ha hk, if_pos rfl]; grind), sumTo_lin n (fun k => M a k * x k) (fun _ => 0)]; grind
    · rw [if_neg e]; exact sumTo_congr fun k hk => by rw [h a k ha hk, if_neg e]
  constructor
  · intro hs a ha
    have h1 := hs a ha
    rw [key a ha, hc a ha] at h1
    by_cases e : a = i
    · subst e; rw [if_pos rfl, if_pos rfl] at h1
      have h2 : q * (sumTo n (fun k => M a k * x k) - b a) = 0 := by grind
      rcases Rat.mul_eq_zero.1 h2 with h3 | h3
      · exact absurd h3 hq
      · grind
    · rw [if_neg e, if_neg e] at h1; exact h1
  · intro hs a ha
    rw [key a ha, hc a ha]
    by_cases e : a = i
    · subst e; rw [if_pos rfl, if_pos rfl, hs a ha]; grind
    · rw [if_neg e, if_neg e]; exact hs a ha
theorem sing_scaled {n i : Nat} {M N : Nat → Nat → Rat} {q : Rat} (hq : q ≠ 0) (h : ∀ a k, a < n → k < n → N a k = if a = i then q * M i k else M a k) : SingF n N ↔ SingF n M := by
  rw [sing_iff, sing_iff]
  have hc : ∀ a, a < n → (fun _ : Nat => (0 : Rat)) a = if a = i then (fun _ : Nat => (0 : Rat)) i * q else (fun _ : Nat => (0 : Rat)) a := fun a _ => by
    show (0 : Rat) = if a = i then 0 * q else 0
    split <;> grind
  constructor
  · rintro ⟨z, hz, hs⟩; exact ⟨z, hz, (sol_scaled hq h hc).1 hs⟩
  · rintro ⟨z, hz, hs⟩; exact ⟨z, hz, (sol_scaled hq h hc).2 hs⟩
theorem sol_double {n : Nat} {M : Nat → Nat → Rat} {b c x y : Nat → Rat} (hc : ∀ a, a < n → c a = b a + 1 * b a) (hy : ∀ k, k < n → y k = x k + 1 * x k) (hs : SolF n M b x) : SolF n M c y := by
  intro a ha
  rw [sumTo_congr (g := fun k => 2 * (M a k * x k) + 0 * 0) (fun k hk => by rw [hy k hk]; grind), sumTo_lin n (fun k => M a k * x k) (fun _ => 0), hs a ha, hc a ha]; grind

theorem unit_sum {n : Nat} {M : Nat → Nat → Rat} (h : ∀ i k, i < n → k < n → M i k = if k = i then 1 else 0) (x : Nat → Rat) {i : Nat} (hi : i < n) : sumTo n (fun k => M i k * x k) = x i := by
  rw [sumTo_one (c := i) _ hi (fun k hk hne => by rw [h i k hi hk, if_neg hne]; grind), h i i hi hi, if_pos rfl]; grind
theorem unit_sol {n : Nat} {M : Nat → Nat → Rat} (h : ∀ i k, i < n → k < n → M i k = if k = i then 1 else 0) {b x : Nat → Rat} (hs : SolF n M b x) {i : Nat} (hi : i < n) : x i = b i := by
  rw [← unit_sum h x hi]; exact hs i hi
theorem unit_not_sing {n : Nat} {M : Nat → Nat → Rat} (h : ∀ i k, i < n → k < n → M i k = if k = i then 1 else 0) : ¬ SingF n M := by
  rintro ⟨z, ⟨k, hk, hz⟩, hs⟩
  exact hz (by rw [← unit_sum h z hk]; exact hs k hk)

/-! ### lists -/
theorem list_eq_of_getD {x y : List Rat} {n : Nat} (hx : x.length = n) (hy : y.length = n) (h : ∀ k, k < n → x.getD k 0 = y.getD k 0) : x = y := by
  apply List.ext_getElem (by omega)
  intro i h1 h2
  have := h i (by omega)
  rwa [List.getD_eq_getElem?_getD, List.getD_eq_getElem?_getD, List.getElem?_eq_getElem h1, List.getElem?_eq_getElem h2] at this
theorem getD_rev {α : Type} {x : List α} {d : α} {n k : Nat} (hx : x.length = n) (hk : k < n) : x.reverse.getD k d = x.getD (n-1-k) d := by
  rw [List.getD_eq_getElem?_getD, List.getD_eq_getElem?_getD, List.getElem?_reverse (by omega), hx]
theorem ent_rows {t : List (List Rat)} {n i : Nat} (ht : t.length = n) (hi : i < n) (k : Nat) : ent t.reverse i k = ent t (n-1-i) k := by
  unfold ent; rw [getD_rev ht hi]
theorem ent_cols {t : List (List Rat)} {n i k : Nat} (ht : t.length = n) (hr : ∀ row ∈ t, row.length = n) (hi : i < n) (hk : k < n) : ent (t.map List.reverse) i k = ent t i (n-1-k) := by
  have h1 : t[i]? = some (t[i]'(by omega)) := List.getElem?_eq_getElem _
  have h2 := hr _ (List.mem_of_getElem? h1)
  unfold ent
  rw [List.getD_eq_getElem?_getD (l := t.map List.reverse), List.getElem?_map, h1, List.getD_eq_getElem?_getD (l := t), h1]
  simp only [Option.map_some, Option.getD_some]
  rw [getD_rev h2 hk]

theorem foldl_add (l : List Rat) (x : Rat) : l.foldl (· + ·) x = x + l.foldl (· + ·) 0 := by
  induction l generalizing x with
  | nil => simp only [List.foldl_nil]; grind
  | cons y l ih => simp only [List.foldl_cons]; rw [ih (x + y), ih (0 + y)]; grind
theorem sumR_cons (x : Rat) (l : List Rat) : sumR (x :: l) = x + sumR l := by
  unfold sumR; rw [List.foldl_cons, foldl_add]; grind
theorem dotL_comm (a b : List Rat) : dotL a b = dotL b a := by
  unfold dotL
  rw [List.zipWith_comm]
  congr 2
  funext x y; grind
theorem dotL_axpy (a : List Rat) (k : Rat) : ∀ (b : List Rat), dotL (axpyL (List.replicate a.length 0) a k) b = k * dotL a b := by
  induction a with
  | nil => intro b; simp only [dotL, axpyL, List.length_nil, List.replicate_zero, List.zipWith_nil_left, sumR_nil]; grind
  | cons x a ih =>
    intro b
    cases b with
    | nil => simp only [dotL, List.zipWith_nil_right, sumR_nil]; grind
    | cons y b =>
      have h := ih b
      unfold dotL axpyL at h ⊢
      rw [List.length_cons, List.replicate_succ, List.zipWith_cons_cons, List.zipWith_cons_cons, List.zipWith_cons_cons, sumR_cons, sumR_cons, h]; grind
end Go.Proofs.YthncinngkfflgaaGreat


/- What comes in reads as fractions, rows and tables of fractions, of whatever size. -/
set_option linter.unusedVariables false
set_option linter.unusedSimpArgs false
set_option maxRecDepth 100000
namespace Go.Proofs.YthncinngkfflgaaGreat
open Go.RowKit Go.Shelf Go.ChangeShapes Go.WideShapes Go.Deep

section
variable {H : Type} {enc : TypeId × Value → H} {w : World} {base : Nat} {spare : Nat → Bool} {held : Bool}

theorem cellsRat : Tryz.prog.cellsOf 37 = 4 := by kernel_rfl
theorem cellsInt : Tryz.prog.cellsOf 35 = 2 := by kernel_rfl
theorem cellsBool : Tryz.prog.cellsOf 4 = 1 := by kernel_rfl
theorem cellsU32s : Tryz.prog.cellsOf 33 = 1 := by kernel_rfl
theorem cellsU32 : Tryz.prog.cellsOf 133 = 1 := by kernel_rfl
theorem cellsRats : Tryz.prog.cellsOf 23 = 1 := by kernel_rfl

theorem u32s_open {fuel : Nat} {cs : List Value} {y : DataW H × List MemPlace} (h : DataW.trod enc Tryz.prog w base spare held fuel 33 cs = some y) :
    ∃ A n c l, cs = [.slice A n c] ∧ U32s w (.slice A n c) l := by
  rcases open_ints Tryz.underlying33 Tryz.underlying133 cellsU32 h with ⟨rfl, -⟩ | ⟨a, n, c, zs, rfl, -, hl, hm, hz, -, hcell, hwf⟩
  · exact ⟨_, _, _, [], rfl, U32s.nil w⟩
  · have hzl : n ≤ zs.length := by rw [hz]; split <;> omega
    have hb : ∀ i, i < n → 0 ≤ zs.getD i 0 ∧ zs.getD i 0 < 4294967296 := fun i hi => by
      have h1 : zs.getD i 0 ∈ zs := by
        rw [List.getD_eq_getElem?_getD, List.getElem?_eq_getElem (by omega)]; exact List.getElem_mem _
      have h2 := hwf _ h1
      have h3 : 0 ≤ zs.getD i 0 ∧ zs.getD i 0 ≤ 4294967295 := by simpa [Lit.wf, IntKind.min, IntKind.max, IntKind.bits, IntKind.signed] using h2
      omega
    refine ⟨_, _, _, (List.range n).map fun i => (zs.getD i 0).toNat, rfl, ?_, some a, c, by simp, by simpa using hl, hm, by simp [nums], ?_⟩
    · intro x hx
      obtain ⟨i, hi, rfl⟩ := List.mem_map.1 hx
      have := hb i (List.mem_range.1 hi)
      omega
    · by_cases hn : n = 0
      · subst hn; left; rfl
      · right
        obtain ⟨b, off, spot⟩ := a
        have h0 := hcell 0 (by omega)
        have hs : spot = none := by simpa [Addr.add] using World.cell?_spot h0
        subst hs
        refine ⟨b, off, rfl, fun j u hj => ?_⟩
        have hjn : j < n := by
          have := (List.getElem?_eq_some_iff.1 hj).1
          simpa [nums] using this
        have h1 := hcell j (by omega)
        rw [add_plain] at h1
        rw [h1]
        have h2 := hb j hjn
        have hj2 : u = .int .u32 (((zs.getD j 0).toNat : Nat) : Int) := by
          unfold nums at hj
          rw [List.getElem?_map, List.getElem?_map, List.getElem?_range hjn] at hj
          simpa using hj.symm
        rw [hj2, Int.toNat_of_nonneg h2.1]

theorem int_open {fuel : Nat} {cs : List Value} {y : DataW H × List MemPlace} (h : DataW.trod enc Tryz.prog w base spare held fuel 35 cs = some y) :
    ∃ s A n c z k, cs = [.bool s, .slice A n c] ∧ RawI w (.agg #[.bool s, .slice A n c]) z k := by
  obtain ⟨y0, y1, m, -, hlen, h0, h1⟩ := trod_struct2 Tryz.underlying35 h
  rw [cellsInt] at hlen
  match cs, hlen with
  | [c0, c1], _ =>
    simp only [cellsBool, cellsU32s, List.drop_zero, List.drop_succ_cons, List.take_succ_cons, List.take_zero] at h0 h1
    obtain ⟨s, e0, -⟩ := DataW.trod_bool Tryz.underlying4 h0
    obtain ⟨A, n, c, l, e1, hu⟩ := u32s_open h1
    simp at e0 e1
    subst e0 e1
    exact ⟨s, A, n, c, _, _, rfl, s, A, n, c, l, rfl, hu, rfl, Nat.le_refl _⟩

theorem RawI.mono' {w : World} {v : Value} {z : Int} {k m : Nat} (h : RawI w v z k) (hm : k ≤ m) : RawI w v z m := by
  obtain ⟨a, A, n, c, l, e, hu, hz, hl⟩ := h; exact ⟨a, A, n, c, l, e, hu, hz, by omega⟩

theorem rat_open {fuel : Nat} {cs : List Value} {y : DataW H × List MemPlace} (h : DataW.trod enc Tryz.prog w base spare held fuel 37 cs = some y) :
    ∃ s A n c s' A' n' c' q, cs = [.bool s, .slice A n c, .bool s', .slice A' n' c'] ∧ EAny w (.agg #[.bool s, .slice A n c, .bool s', .slice A' n' c']) q := by
  obtain ⟨y0, y1, m, -, hlen, h0, h1⟩ := trod_struct2 Tryz.underlying37 h
  rw [cellsRat] at hlen
  match cs, hlen with
  | [c0, c1, c2, c3], _ =>
    simp only [cellsInt, List.drop_zero, List.drop_succ_cons, List.take_succ_cons, List.take_zero] at h0 h1
    obtain ⟨s, A, n, c, z, k, e0, hz⟩ := int_open h0
    obtain ⟨s', A', n', c', z', k', e1, hz'⟩ := int_open h1
    simp at e0 e1
    obtain ⟨rfl, rfl⟩ := e0
    obtain ⟨rfl, rfl⟩ := e1
    exact ⟨s, A, n, c, s', A', n', c', _, rfl, k + k', s, A, n, c, s', A', n', c', z, z', rfl, hz.mono' (by omega), hz'.mono' (by omega), rfl⟩

theorem rats_open {fuel : Nat} {cs : List Value} {y : DataW H × List MemPlace} (h : DataW.trod enc Tryz.prog w base spare held fuel 23 cs = some y) :
    ∃ A n c l, cs = [.slice A n c] ∧ Rats EAny w (.slice A n c) l := by
  rcases open_slice Tryz.underlying23 h with ⟨rfl, -⟩ | ⟨a, n, c, m, f, D, Pl, rfl, -, hl, hm, hmm, -, hx⟩
  · exact ⟨_, _, _, [], rfl, none, 0, rfl, by simp, by decide, fun i q hi => by simp at hi⟩
  · have hnm : n ≤ m := by rw [hmm]; split <;> omega
    rcases Nat.eq_zero_or_pos n with rfl | hpos
    · exact ⟨_, _, _, [], rfl, some a, c, rfl, by simp, hm, fun i q hi => by simp at hi⟩
    obtain ⟨b0, off0, spot⟩ := a
    obtain rfl : spot = none := by
      obtain ⟨cs, h1, h2⟩ := hx 0 (by omega)
      obtain ⟨s, A, n', c', s', A', n'', c'', q, rfl, hq⟩ := rat_open h2
      rw [cellsRat] at h1
      obtain ⟨-, -, h3⟩ := World.cells?_some h1
      have := World.cell?_spot (h3 0 (by omega))
      simpa [Addr.add] using this
    have key : ∀ i, i < n → ∃ q : Rat, ∃ b off s A1 n1 c1 s' A2 n2 c2, (⟨b0, off0, none⟩ : Addr) = ⟨b, off, none⟩ ∧ w.cell? ⟨b, off + i * 4, none⟩ = some (.bool s) ∧ w.cell? ⟨b, off + i * 4 + 1, none⟩ = some (.slice A1 n1 c1) ∧
        w.cell? ⟨b, off + i * 4 + 2, none⟩ = some (.bool s') ∧ w.cell? ⟨b, off + i * 4 + 3, none⟩ = some (.slice A2 n2 c2) ∧ EAny w (.agg #[.bool s, .slice A1 n1 c1, .bool s', .slice A2 n2 c2]) q := fun i hi => by
      obtain ⟨cs, h1, h2⟩ := hx i (by omega)
      obtain ⟨s, A, n', c', s', A', n'', c'', q, rfl, hq⟩ := rat_open h2
      rw [cellsRat] at h1
      obtain ⟨-, -, h3⟩ := World.cells?_some h1
      have h4 := h3 0 (by omega); have h5 := h3 1 (by omega); have h6 := h3 2 (by omega); have h7 := h3 3 (by omega)
      simp only [add_plain, Nat.add_zero] at h4 h5 h6 h7
      exact ⟨q, b0, off0, s, A, n', c', s', A', n'', c'', rfl, h4, h5, h6, h7, hq⟩
    obtain ⟨Q, hQ⟩ := choose_lt (α := Rat) key
    refine ⟨_, _, _, (List.range n).map Q, rfl, some ⟨b0, off0, none⟩, c, by simp, by simpa using hl, hm, fun i q hi => ?_⟩
    have hin : i < n := by
      have := (List.getElem?_eq_some_iff.1 hi).1
      simpa using this
    obtain ⟨b, off, s, A1, n1, c1, s', A2, n2, c2, e0, x⟩ := hQ i hin
    simp [hin] at hi
    subst hi
    exact ⟨b, off, s, A1, n1, c1, s', A2, n2, c2, by rw [e0], x⟩

theorem tab_open {fuel : Nat} {cs : List Value} {y : DataW H × List MemPlace} (h : DataW.trod enc Tryz.prog w base spare held fuel 22 cs = some y) :
    ∃ A n c t, cs = [.slice A n c] ∧ Tab EAny w (.slice A n c) t := by
  rcases open_slice Tryz.underlying22 h with ⟨rfl, -⟩ | ⟨a, n, c, m, f, D, Pl, rfl, -, hl, hm, hmm, -, hx⟩
  · exact ⟨_, _, _, [], rfl, none, 0, rfl, by simp, by decide, fun i q hi => by simp at hi⟩
  · have hnm : n ≤ m := by rw [hmm]; split <;> omega
    rcases Nat.eq_zero_or_pos n with rfl | hpos
    · exact ⟨_, _, _, [], rfl, some a, c, rfl, by simp, hm, fun i q hi => by simp at hi⟩
    obtain ⟨b0, off0, spot⟩ := a
    obtain rfl : spot = none := by
      obtain ⟨cs, h1, h2⟩ := hx 0 (by omega)
      obtain ⟨A, n', c', l, rfl, hq⟩ := rats_open h2
      rw [cellsRats] at h1
      obtain ⟨-, -, h3⟩ := World.cells?_some h1
      have := World.cell?_spot (h3 0 (by omega))
      simpa [Addr.add] using this
    have key : ∀ i, i < n → ∃ row : List Rat, ∃ b off A' n' c', (⟨b0, off0, none⟩ : Addr) = ⟨b, off, none⟩ ∧ w.cell? ⟨b, off + i, none⟩ = some (.slice A' n' c') ∧ Rats EAny w (.slice A' n' c') row := fun i hi => by
      obtain ⟨cs, h1, h2⟩ := hx i (by omega)
      obtain ⟨A, n', c', l, rfl, hq⟩ := rats_open h2
      rw [cellsRats] at h1
      obtain ⟨-, -, h3⟩ := World.cells?_some h1
      have h4 := h3 0 (by omega)
      simp only [add_plain, Nat.add_zero, Nat.mul_one] at h4
      exact ⟨l, b0, off0, A, n', c', rfl, h4, hq⟩
    obtain ⟨Q, hQ⟩ := choose_lt (α := List Rat) key
    refine ⟨_, _, _, (List.range n).map Q, rfl, some ⟨b0, off0, none⟩, c, by simp, by simpa using hl, hm, fun i q hi => ?_⟩
    have hin : i < n := by
      have := (List.getElem?_eq_some_iff.1 hi).1
      simpa using this
    obtain ⟨b, off, A1, n1, c1, e0, x⟩ := hQ i hin
    simp [hin] at hi
    subst hi
    exact ⟨b, off, A1, n1, c1, by rw [e0], x⟩

theorem arg_rat {r : Reach} {b0 : Nat} {v : Value} {d : DataW H} {p : List MemPlace} (hv : Value.okWide Tryz.prog w r b0 37 v) (h : DataW.Trod enc Tryz.prog w base spare held 37 v d p) : ∃ q, EAny w v q := by
  obtain ⟨cs, rfl, hsz⟩ := okWide_struct Tryz.underlying37 hv
  obtain ⟨fuel, hf⟩ := h
  obtain ⟨s, A, n, c, s', A', n', c', q, e, hq⟩ := rat_open hf
  have e2 : cs = #[.bool s, .slice A n c, .bool s', .slice A' n' c'] := by
    apply Array.ext'
    simpa [Value.cells] using e
  exact ⟨q, by rw [e2]; exact hq⟩
theorem arg_rats {r : Reach} {b0 : Nat} {v : Value} {d : DataW H} {p : List MemPlace} (hv : Value.okWide Tryz.prog w r b0 23 v) (h : DataW.Trod enc Tryz.prog w base spare held 23 v d p) : ∃ l, Rats EAny w v l := by
  obtain ⟨A, n, c, rfl⟩ := okWide_slice Tryz.underlying23 hv
  obtain ⟨fuel, hf⟩ := h
  obtain ⟨A', n', c', l, e, hl⟩ := rats_open hf
  simp [Value.cells] at e
  obtain ⟨rfl, rfl, rfl⟩ := e
  exact ⟨l, hl⟩
theorem arg_tab {r : Reach} {b0 : Nat} {v : Value} {d : DataW H} {p : List MemPlace} (hv : Value.okWide Tryz.prog w r b0 22 v) (h : DataW.Trod enc Tryz.prog w base spare held 22 v d p) : ∃ t, Tab EAny w v t := by
  obtain ⟨A, n, c, rfl⟩ := okWide_slice Tryz.underlying22 hv
  obtain ⟨fuel, hf⟩ := h
  obtain ⟨A', n', c', l, e, hl⟩ := tab_open hf
  simp [Value.cells] at e
  obtain ⟨rfl, rfl, rfl⟩ := e
  exact ⟨l, hl⟩
end
end Go.Proofs.YthncinngkfflgaaGreat


/- Several rows of one's own that grow by turns. -/
set_option linter.unusedVariables false
set_option linter.unusedSimpArgs false
set_option maxRecDepth 100000
namespace Go.Proofs.YthncinngkfflgaaGreat
open Go.RowKit Go.Shelf
attribute [local go_sem ↓] Go.wp_at_zero Go.wp_at_succ

theorem ownsRow_grown {w w' : World} {B size n : Nat} {e : TypeId} {v : Value} {xs : List Value} {row : Option Nat} (h : w.ownsRow B e size v n xs) (hg : w.grownBy w' row) (hv : ∀ k, v.ownBlock = some k → some k ≠ row) : w'.ownsRow B e size v n xs := by
  obtain ⟨h2, h3⟩ := h
  refine ⟨h2, ?_⟩
  rcases h3 with h3 | ⟨g, cap, cur, rfl, hb', hgg, r⟩
  · exact .inl h3
  · have hlt : g < w.heap.size := by
      rcases Nat.lt_or_ge g w.heap.size with h | h
      · exact h
      · rw [Array.getElem?_eq_none h] at hgg; cases hgg
    exact .inr ⟨g, cap, cur, rfl, hb', (hg.block g hlt (hv g rfl)).trans hgg, r⟩
theorem On.beside {w w' : World} {P P' : Nat → Prop} {T : World → Prop} {row : Option Nat} (h : On w P T) (hg : w.grownBy w' row) (h1 : ∀ b, P b → b < w.heap.size → some b ≠ row ∧ P' b) : On w' P' T := by
  obtain ⟨F, f1, f2⟩ := h
  exact ⟨F, fun b hb => ⟨(h1 b (f1 b hb).1 (f1 b hb).2).2, Nat.lt_of_lt_of_le (f1 b hb).2 hg.size⟩, fun W hW => f2 W fun b hb => (hW b hb).trans (hg.block b (f1 b hb).2 (h1 b (f1 b hb).1 (f1 b hb).2).1)⟩

theorem rats_agree {w W : World} {k : Nat} {v : Value} {l : List Rat} (h : Rats (ERaw k) w v l) (ha : ∀ b, b < w.heap.size → W.heap[b]? = w.heap[b]?) : Rats (ERaw k) W v l := by
  have hc : ∀ (p : Addr) (u : Value), w.cell? p = some u → W.cell? p = some u := fun p u h => (World.cell?_of_block (a := p) (ha p.block (World.block_lt_of_cell? w _ h))).trans h
  obtain ⟨A, c, e, h1, h2, h3⟩ := h
  refine ⟨A, c, e, h1, h2, fun i q hi => ?_⟩
  obtain ⟨b, off, s, A1, n1, c1, s', A2, n2, c2, hA, x1, x2, x3, x4, hE'⟩ := h3 i q hi
  exact ⟨b, off, s, A1, n1, c1, s', A2, n2, c2, hA, hc _ _ x1, hc _ _ x2, hc _ _ x3, hc _ _ x4, rawR_agree hE' ha⟩
/-- a row that came in hangs on what was there -/
theorem On.ratsRaw {w : World} {v : Value} {l : List Rat} {k : Nat} (h : Rats (ERaw k) w v l) : On w (fun b => b < w.heap.size) (fun W => Rats (ERaw k) W v l) :=
  ⟨fun b => b < w.heap.size, fun b hb => ⟨hb, hb⟩, fun W hW => rats_agree h hW⟩

/-- another row, X, has grown -/
theorem OutRats.beside {E : Elem} {w w' : World} {P P' : Nat → Prop} {lo : Nat} {v : Value} {l : List Rat} {row : Option Nat} (h : OutRats E w P lo v l) (hg : w.grownBy w' row)
    (hv : ∀ k, v.ownBlock = some k → some k ≠ row) (hP : ∀ b, P b → b < w.heap.size → some b ≠ row ∧ P' b) : OutRats E w' P' lo v l := by
  obtain ⟨es, h1, h2, h3, h4⟩ := h
  exact ⟨es, h1, ownsRow_grown h2 hg hv, h3, h4.beside hg fun b hb hlt => ⟨(hP b hb.1 hlt).1, (hP b hb.1 hlt).2, hb.2⟩⟩
theorem OutTab.beside {E : Elem} {w w' : World} {P P' : Nat → Prop} {lo : Nat} {v : Value} {t : List (List Rat)} {row : Option Nat} (h : OutTab E w P lo v t) (hg : w.grownBy w' row)
    (hv : ∀ k, v.ownBlock = some k → some k ≠ row) (hP : ∀ b, P b → b < w.heap.size → some b ≠ row ∧ P' b) : OutTab E w' P' lo v t := by
  obtain ⟨es, h1, h2, h3, h4⟩ := h
  exact ⟨es, h1, ownsRow_grown h2 hg hv, h3, h4.beside hg fun b hb hlt => ⟨(hP b hb.1 hlt).1, (hP b hb.1 hlt).2, hb.2⟩⟩
/-- a row of fractions and a table lie in different blocks -/
theorem rats_tab_apart {E E' : Elem} {w : World} {P P' : Nat → Prop} {lo lo' : Nat} {v u : Value} {l : List Rat} {t : List (List Rat)} (h : OutRats E w P lo v l) (k : OutTab E' w P' lo' u t) : ∀ g, v.ownBlock = some g → some g ≠ u.ownBlock := by
  obtain ⟨es, h1, ⟨-, h2⟩, -⟩ := h
  obtain ⟨fs, k1, ⟨-, k2⟩, -⟩ := k
  intro g hg he
  rcases h2 with ⟨rfl, -⟩ | ⟨g1, c1, cur1, rfl, -, hg1, -⟩
  · cases hg
  rcases k2 with ⟨rfl, -⟩ | ⟨g2, c2, cur2, rfl, -, hg2, -⟩
  · cases he
  injection hg with hg; injection he with he
  subst hg
  subst he
  rw [hg1] at hg2
  injection hg2 with hg2
  injection hg2 with _ hg2 _
  exact absurd hg2 (by decide)

section
variable {w : World} {o : Oper} {a : Act} {K : Act → World → Prop} {Q : Exit → Act → World → Prop}
theorem wp_append_rat3 (s x : Operand) (ho : o.op = .call { callee := .builtin .append, args := #[s, x], argTypes := #[23, 23] })
    {E : Elem} {P : Nat → Prop} {lo : Nat} {v : Value} {l : List Rat} {g : Nat} {q : Rat} {t t' : Bool} {A A' : Option Addr} {n c n' c' : Nat} (hs : a.eval s = v) (hown : OutRats E w P lo v l)
    (hx : a.eval x = .slice (some ⟨g, 0, none⟩) 1 1) (hrow : Row w g 37 [.bool t, .slice A n c, .bool t', .slice A' n' c'])
    (hel : On w (fun b => P b ∧ some b ≠ v.ownBlock) (fun W => E W (.agg #[.bool t, .slice A n c, .bool t', .slice A' n' c']) q)) (hlen : l.length ≤ 3000000000) (hbase : lo ≤ w.heap.size)
    (h : ∀ v' w', OutRats E w' P lo v' (l ++ [q]) → w.grownBy w' v.ownBlock → (v'.ownBlock = v.ownBlock ∨ v'.ownBlock = some w.heap.size) → K (a.put o.dst v') w') : o.wp Tryz.prog a w K Q := by
  obtain ⟨es, h1, h2, h3, h4⟩ := hown
  refine wp_append_own_ s x _ ho lo 37 _ 4 64 Tryz.underlying23 info_rat rfl (by omega) (by omega) v l.length _ hs h2 ⟨g, 0, none⟩ 1 1 [.bool t, .slice A n c, .bool t', .slice A' n' c'] hx rfl (fun j u hj => by rw [Go.WideShapes.add_plain, Nat.zero_add]; exact hrow.cell hj) (by simp [Value.oneCell']) (by omega) hbase ?_
  intro v' w' k1 k2 k3
  exact h v' w' (OutRats.snoc es h1 h3 h4 k1 k2 k3 hel) k2 k3
theorem wp_append_row3 (s x : Operand) (ho : o.op = .call { callee := .builtin .append, args := #[s, x], argTypes := #[22, 22] })
    {E : Elem} {P : Nat → Prop} {lo : Nat} {v : Value} {t : List (List Rat)} {g : Nat} {row : List Rat} {A : Option Addr} {n c : Nat} (hs : a.eval s = v) (hown : OutTab E w P lo v t)
    (hx : a.eval x = .slice (some ⟨g, 0, none⟩) 1 1) (hrow : Row w g 23 [.slice A n c])
    (hel : On w (fun b => P b ∧ some b ≠ v.ownBlock) (fun W => Rats E W (.slice A n c) row)) (hlen : t.length ≤ 3000000000) (hbase : lo ≤ w.heap.size)
    (h : ∀ v' w', OutTab E w' P lo v' (t ++ [row]) → w.grownBy w' v.ownBlock → (v'.ownBlock = v.ownBlock ∨ v'.ownBlock = some w.heap.size) → K (a.put o.dst v') w') : o.wp Tryz.prog a w K Q := by
  obtain ⟨es, h1, h2, h3, h4⟩ := hown
  refine wp_append_own_ s x _ ho lo 23 _ 1 24 Tryz.underlying22 info_row rfl (by omega) (by omega) v t.length _ hs h2 ⟨g, 0, none⟩ 1 1 [.slice A n c] hx rfl (fun j u hj => by rw [Go.WideShapes.add_plain, Nat.zero_add]; exact hrow.cell hj) (by simp [Value.oneCell']) (by omega) hbase ?_
  intro v' w' k1 k2 k3
  exact h v' w' (OutTab.snoc es h1 h3 h4 k1 k2 k3 hel) k2 k3
end
theorem wpList_append_rat3 {w : World} {ops : Array Oper} {rest : List Oper} {o : Oper} {a : Act} {Q : Exit → Act → World → Prop} (hgd : o.guard = none) (s x : Operand) (ho : o.op = .call { callee := .builtin .append, args := #[s, x], argTypes := #[23, 23] })
    {E : Elem} {P : Nat → Prop} {lo : Nat} {v : Value} {l : List Rat} {g : Nat} {q : Rat} {t t' : Bool} {A A' : Option Addr} {n c n' c' : Nat} (hs : a.eval s = v) (hown : OutRats E w P lo v l)
    (hx : a.eval x = .slice (some ⟨g, 0, none⟩) 1 1) (hrow : Row w g 37 [.bool t, .slice A n c, .bool t', .slice A' n' c'])
    (hel : On w (fun b => P b ∧ some b ≠ v.ownBlock) (fun W => E W (.agg #[.bool t, .slice A n c, .bool t', .slice A' n' c']) q)) (hlen : l.length ≤ 3000000000) (hbase : lo ≤ w.heap.size)
    (h : ∀ v' w', OutRats E w' P lo v' (l ++ [q]) → w.grownBy w' v.ownBlock → (v'.ownBlock = v.ownBlock ∨ v'.ownBlock = some w.heap.size) → wpList Tryz.prog ops Q rest (a.put o.dst v') w') : wpList Tryz.prog ops Q (o :: rest) a w :=
  wpList_plain hgd fun K hK => wp_append_rat3 s x ho hs hown hx hrow hel hlen hbase fun v' w' h1 h2 h3 => hK _ _ (h v' w' h1 h2 h3)
theorem wpList_append_row3 {w : World} {ops : Array Oper} {rest : List Oper} {o : Oper} {a : Act} {Q : Exit → Act → World → Prop} (hgd : o.guard = none) (s x : Operand) (ho : o.op = .call { callee := .builtin .append, args := #[s, x], argTypes := #[22, 22] })
    {E : Elem} {P : Nat → Prop} {lo : Nat} {v : Value} {t : List (List Rat)} {g : Nat} {row : List Rat} {A : Option Addr} {n c : Nat} (hs : a.eval s = v) (hown : OutTab E w P lo v t)
    (hx : a.eval x = .slice (some ⟨g, 0, none⟩) 1 1) (hrow : Row w g 23 [.slice A n c])
    (hel : On w (fun b => P b ∧ some b ≠ v.ownBlock) (fun W => Rats E W (.slice A n c) row)) (hlen : t.length ≤ 3000000000) (hbase : lo ≤ w.heap.size)
    (h : ∀ v' w', OutTab E w' P lo v' (t ++ [row]) → w.grownBy w' v.ownBlock → (v'.ownBlock = v.ownBlock ∨ v'.ownBlock = some w.heap.size) → wpList Tryz.prog ops Q rest (a.put o.dst v') w') : wpList Tryz.prog ops Q (o :: rest) a w :=
  wpList_plain hgd fun K hK => wp_append_row3 s x ho hs hown hx hrow hel hlen hbase fun v' w' h1 h2 h3 => hK _ _ (h v' w' h1 h2 h3)
end Go.Proofs.YthncinngkfflgaaGreat


/- FewRows, and the reference's Rect. -/
set_option linter.unusedVariables false
set_option linter.unusedSimpArgs false
set_option maxRecDepth 100000
namespace Go.Proofs.YthncinngkfflgaaGreat
open Go.RowKit Go.Shelf
attribute [local go_sem ↓] Go.wp_at_zero Go.wp_at_succ

/-- the i-th row of a table -/
def RowAt (E : Elem) (w : World) (A : Option Addr) (i : Nat) (row : List Rat) : Prop :=
  ∃ b off A' n' c', A = some ⟨b, off, none⟩ ∧ w.cell? ⟨b, off + i, none⟩ = some (.slice A' n' c') ∧ Rats E w (.slice A' n' c') row
/-- what FewRows tells -/
def FewRowsPost (w : World) (v : Value) (t : List (List Rat)) (most : Nat) (e : Ending) (w' : World) : Prop := ∃ u, e = .returned (.bool u) ∧ (u = true → t.length ≤ most ∧ (∀ row ∈ t, row.length ≤ most) ∧ Tab (ERaw 1) w v t) ∧ w = w'

set_option maxHeartbeats 4000000 in
theorem fewrows_calls (w : World) (v : Value) (t : List (List Rat)) (most : Nat) (h : Tab EAny w v t) (hm : most ≤ 1000000) :
    Calls Tryz.prog 49 #[v, .int .i64 (most : Int)] w (FewRowsPost w v t most) := by
  have H := hide h
  obtain ⟨A0, nt, ct, rfl, hnt, hcap, hcm, -⟩ := h.form
  have HNT := hide hnt
  clear h hnt
  by_cases hle : most < nt
  · have t1 : decide ((most : Int) < nt) = true := by simp; omega
    go_enter Tryz.func49, Tryz.ntmps49
    go_wp2_with fail
    go_ret
    exact ⟨false, rfl, by simp, rfl⟩
  · have t1 : decide ((most : Int) < nt) = false := by simp; omega
    go_enter Tryz.func49, Tryz.ntmps49
    go_wp2_with fail
    go_loop [5] (fun i => ∃ j : Nat, j ≤ nt ∧ i = .int .i64 (j : Int) ∧ Hid (∀ i row, i < j → t[i]? = some row → row.length ≤ most ∧ RowAt (ERaw 1) w A0 i row)) (fun i => (nt - intOf i).toNat)
    case atStart => exact ⟨0, by omega, rfl, hide fun i q hi => by omega⟩
    case round =>
      obtain ⟨j, hj, rfl, hpre⟩ := hrel
      by_cases hjn : j < nt
      · obtain ⟨row, hx⟩ : ∃ row, t[j]? = some row := ⟨t[j]'(by have := HNT.out; omega), List.getElem?_eq_getElem _⟩
        obtain ⟨b1, off1, A1, n1, c1, rfl, x1, ex⟩ := H.out.at_ hx
        have EX := hide ex; have HX := hide hx
        have hj0 : (0 : Int) ≤ (j : Int) := by omega
        have hj1 : (j : Int) < nt := by omega
        clear ex hx
        go_wp2_with fail
        refine (few_calls w _ row most EX.out hm).mono ?_
        rintro e w2 ⟨u, rfl, hf, hw⟩
        subst hw
        cases u with
        | false =>
          go_wp2_with fail
          go_ret
          exact ⟨false, rfl, by simp, rfl⟩
        | true =>
          have HP : Hid (∀ i r, i < j + 1 → t[i]? = some r → r.length ≤ most ∧ RowAt (ERaw 1) w (some ⟨b1, off1, none⟩) i r) := hide fun i r hi hr => by
            by_cases hij : i < j
            · exact hpre.out i r hij hr
            · obtain rfl : i = j := by omega
              rw [HX.out] at hr
              injection hr with hr
              subst hr
              exact ⟨(hf rfl).1, b1, off1, A1, n1, c1, rfl, x1, (hf rfl).2⟩
          clear hf hpre
          go_wp2_with fail
          exact ⟨⟨j+1, by omega, by go_num, HP⟩, by simp [intOf]; omega⟩
      · obtain rfl : nt = j := by omega
        have HF : Hid (t.length ≤ most ∧ (∀ row ∈ t, row.length ≤ most) ∧ Tab (ERaw 1) w (.slice A0 nt ct) t) := hide ⟨by rw [← HNT.out]; omega, fun row hr => by
            obtain ⟨i, hi⟩ := List.getElem?_of_mem hr
            exact (hpre.out i row (by rw [HNT.out]; exact (List.getElem?_eq_some_iff.1 hi).1) hi).1,
          A0, ct, by rw [HNT.out], by rw [← HNT.out]; exact hcap, hcm, fun i row hi => (hpre.out i row (by rw [HNT.out]; exact (List.getElem?_eq_some_iff.1 hi).1) hi).2⟩
        go_wp2
        go_ret
        exact ⟨true, rfl, fun _ => HF.out, rfl⟩

end Go.Proofs.YthncinngkfflgaaGreat


/- A row of one's own made of another one; one element stored anew. -/
set_option linter.unusedVariables false
set_option linter.unusedSimpArgs false
set_option maxRecDepth 100000
namespace Go.Proofs.YthncinngkfflgaaGreat
open Go.RowKit Go.Shelf
attribute [local go_sem ↓] Go.wp_at_zero Go.wp_at_succ

theorem OutRats.ratsOn2 {E : Elem} {w : World} {P : Nat → Prop} {lo : Nat} {v : Value} {l : List Rat} (h : OutRats E w P lo v l) : Rats (EOn (fun b => P b ∧ some b ≠ v.ownBlock) E) w v l := by
  have h' : OutRats (EOn (fun b => P b ∧ some b ≠ v.ownBlock) E) w P lo v l := by
    obtain ⟨es, h1, h2, h3, h4⟩ := h
    refine ⟨es, h1, h2, h3, ?_⟩
    obtain ⟨F, f1, f2⟩ := h4
    exact ⟨F, f1, fun W hW i e q hi hq => ⟨F, fun b hb => ⟨(f1 b hb).1, by
      have h5 := hW b hb
      rw [Array.getElem?_eq_getElem (f1 b hb).2] at h5
      exact (Array.getElem?_eq_some_iff.1 h5).1⟩, fun W' hW' => f2 W' (fun b hb => (hW' b hb).trans (hW b hb)) i e q hi hq⟩⟩
  exact h'.rats.now
theorem OutRats.row {E : Elem} {w : World} {P : Nat → Prop} {lo : Nat} {v : Value} {l : List Rat} (h : OutRats E w P lo v l) (hl : 0 < l.length) :
    ∃ g cap cs, v = .slice (some ⟨g, 0, none⟩) l.length cap ∧ lo ≤ g ∧ l.length ≤ cap ∧ cap ≤ maxLen ∧ Row w g 37 cs := by
  obtain ⟨es, h1, ⟨h2, h2'⟩, h3, h4⟩ := h
  rcases h2' with ⟨rfl, h0⟩ | ⟨g, cap, cur, rfl, hb, hg, hn, hm, hs, ht⟩
  · omega
  · exact ⟨g, cap, cur.toList, rfl, hb, hn, hm, by unfold Row; simpa using hg⟩

/-- one element of a row of one's own is stored anew -/
theorem OutRats.put {E : Elem} {w : World} {P : Nat → Prop} {lo g cap n a i : Nat} {l : List Rat} {q : Rat} {s s' : Bool} {A A' : Option Addr} {m c m' c' : Nat} (h : OutRats E w P lo (.slice (some ⟨g, 0, none⟩) n cap) l) (hi : i < l.length) (ha : a = i * 4)
    (hq : On w (fun b => b ≠ g) (fun W => E W (.agg #[.bool s, .slice A m c, .bool s', .slice A' m' c']) q)) :
    Rats E ((((w.setCell ⟨g, a, none⟩ (.bool s)).setCell ⟨g, a + 1, none⟩ (.slice A m c)).setCell ⟨g, a + 2, none⟩ (.bool s')).setCell ⟨g, a + 3, none⟩ (.slice A' m' c')) (.slice (some ⟨g, 0, none⟩) n cap) (l.set i q) := by
  obtain ⟨g2, cap2, cs, e, hlo, hlc, hcm, hr⟩ := h.row (by omega)
  injection e with e1 e2 e3
  injection e1 with e1; injection e1 with e1
  subst e1 e2 e3
  have hall := h.ratsOn2
  have hr2 := (((hr.set_ a (.bool s)).set_ (a+1) (.slice A m c)).set_ (a+2) (.bool s')).set_ (a+3) (.slice A' m' c')
  have oo : Only g w ((((w.setCell ⟨g, a, none⟩ (.bool s)).setCell ⟨g, a + 1, none⟩ (.slice A m c)).setCell ⟨g, a + 2, none⟩ (.bool s')).setCell ⟨g, a + 3, none⟩ (.slice A' m' c')) := (((Only.one g w a _).set _ _).set _ _).set _ _
  have hcell : ∀ k u, w.cell? ⟨g, k, none⟩ = some u → cs[k]? = some u := fun k u hk => by
    rw [cell_of_row w g k cs.toArray 37 (0, 0) hr] at hk; simpa using hk
  refine ⟨some ⟨g, 0, none⟩, cap, by rw [List.length_set], by rw [List.length_set]; exact hlc, hcm, fun j x hj => ?_⟩
  have hjl : j < l.length := by
    have := (List.getElem?_eq_some_iff.1 hj).1
    simpa using this
  obtain ⟨y, hy⟩ : ∃ y, l[j]? = some y := ⟨l[j], List.getElem?_eq_getElem hjl⟩
  obtain ⟨b, off, t, B, k, d, t', B', k', d', e0, x1, x2, x3, x4, hE⟩ := hall.at_ hy
  injection e0 with e0; injection e0 with e0 e0'
  subst e0 e0'
  rw [Nat.zero_add] at x1 x2 x3 x4
  by_cases e : j = i
  · subst e
    rw [List.getElem?_set, if_pos rfl, if_pos hjl] at hj
    injection hj with hj
    subst hj
    have l1 := (List.getElem?_eq_some_iff.1 (hcell _ _ x1)).1; have l2 := (List.getElem?_eq_some_iff.1 (hcell _ _ x2)).1; have l3 := (List.getElem?_eq_some_iff.1 (hcell _ _ x3)).1; have l4 := (List.getElem?_eq_some_iff.1 (hcell _ _ x4)).1
    refine ⟨g, 0, s, A, m, c, s', A', m', c', rfl, hr2.cell ?_, hr2.cell ?_, hr2.cell ?_, hr2.cell ?_, ?_⟩
    · subst ha; simp [List.getElem?_set, l1]
    · subst ha; simp [List.getElem?_set, l2]
    · subst ha; simp [List.getElem?_set, l3]
    · subst ha; simp [List.getElem?_set, l4]
    · exact (hq.only oo (fun h => h rfl)).now
  · rw [List.getElem?_set, if_neg (fun e2 => e e2.symm), hy] at hj
    injection hj with hj
    subst hj
    have hne : ∀ r p, r < 4 → p < 4 → j * 4 + r ≠ i * 4 + p := fun r p hr hp => by omega
    refine ⟨g, 0, t, B, k, d, t', B', k', d', rfl, hr2.cell ?_, hr2.cell ?_, hr2.cell ?_, hr2.cell ?_, ?_⟩
    · subst ha; rw [Nat.zero_add, List.getElem?_set_ne (by omega), List.getElem?_set_ne (by omega), List.getElem?_set_ne (by omega), List.getElem?_set_ne (by omega)]; exact hcell _ _ x1
    · subst ha; rw [Nat.zero_add, List.getElem?_set_ne (by omega), List.getElem?_set_ne (by omega), List.getElem?_set_ne (by omega), List.getElem?_set_ne (by omega)]; exact hcell _ _ x2
    · subst ha; rw [Nat.zero_add, List.getElem?_set_ne (by omega), List.getElem?_set_ne (by omega), List.getElem?_set_ne (by omega), List.getElem?_set_ne (by omega)]; exact hcell _ _ x3
    · subst ha; rw [Nat.zero_add, List.getElem?_set_ne (by omega), List.getElem?_set_ne (by omega), List.getElem?_set_ne (by omega), List.getElem?_set_ne (by omega)]; exact hcell _ _ x4
    · exact ((show On w _ (fun W => E W _ _) from hE).only oo (fun h => h.2 rfl)).now

/-- one row of a table of one's own is stored anew -/
theorem OutTab.put {E : Elem} {w : World} {P : Nat → Prop} {lo g n cap i : Nat} {t : List (List Rat)} {row : List Rat} {A : Option Addr} {m c : Nat} (h : OutTab E w P lo (.slice (some ⟨g, 0, none⟩) n cap) t)
    (hi : i < t.length) (hx : On w (fun b => P b ∧ b ≠ g) (fun W => Rats E W (.slice A m c) row)) :
    OutTab E (w.setCell ⟨g, i, none⟩ (.slice A m c)) P lo (.slice (some ⟨g, 0, none⟩) n cap) (t.set i row) := by
  obtain ⟨es, h1, ⟨h2, h2'⟩, h3, h4⟩ := h
  rcases h2' with ⟨e, h0⟩ | ⟨g', cap', cur, e, hb, hg, hn, hm, hs, ht⟩
  · omega
  · injection e with e1 e2 e3
    injection e1 with e1; injection e1 with e1
    subst e1 e2 e3
    have hr : Row w g 23 cur.toList := by unfold Row; simpa using hg
    have hr2 := hr.set_ i (.slice A m c)
    refine ⟨es.set i (.slice A m c), by simp [h1], ⟨?_, .inr ⟨g, cap, (cur.toList.set i (.slice A m c)).toArray, by rw [List.length_set], hb, hr2, by rw [List.length_set]; exact hn, hm, ?_, ?_⟩⟩, ?_, ?_⟩
    · rw [List.length_set, List.length_set]; exact h2
    · simp [hs]
    · rw [List.length_set, ← ht, List.take_set]
    · intro e he
      rcases List.mem_or_eq_of_mem_set he with he | he
      · exact h3 _ he
      · rw [he]; exact ⟨_, _, _, rfl⟩
    · have oo : Only g w (w.setCell ⟨g, i, none⟩ (.slice A m c)) := Only.one g w i _
      have hx2 : On w (fun b => P b ∧ some b ≠ (Value.slice (some ⟨g, 0, none⟩) t.length cap).ownBlock) (fun W => Rats E W (.slice A m c) row) := hx.mono fun b hb _ => ⟨hb.1, fun e => hb.2 (by have e2 : some b = some g := e; injection e2)⟩
      refine ((h4.and hx2).only oo (fun hh => hh.2 rfl)).map fun W hW a e r ha hrow => ?_
      rw [List.getElem?_set] at ha hrow
      by_cases e2 : i = a
      · subst e2
        rw [if_pos rfl, if_pos (by omega)] at ha
        rw [if_pos rfl, if_pos hi] at hrow
        injection ha with ha; injection hrow with hrow
        rw [← ha, ← hrow]; exact hW.2
      · rw [if_neg e2] at ha hrow
        exact hW.1 a _ _ ha hrow

/-- a table's rows, as a list of values -/
theorem Tab.list {E : Elem} {w : World} {A : Option Addr} {n c : Nat} {t : List (List Rat)} (h : Tab E w (.slice A n c) t) (hl : 0 < t.length) :
    ∃ es : List Value, es.length = t.length ∧ (∀ e ∈ es, ∃ A n c, e = .slice A n c) ∧ Src w 1 (.slice A n c) n es ∧ ∀ (i : Nat) (e : Value) (row : List Rat), es[i]? = some e → t[i]? = some row → Rats E w e row := by
  obtain ⟨A', c', e, h1, h2, h3⟩ := id h
  injection e with e1 e2 e3
  subst e1 e2 e3
  have hk : ∀ i : Fin t.length, ∃ e : Value, (∃ A n c, e = .slice A n c) ∧ (∃ b off, A = some ⟨b, off, none⟩ ∧ w.cell? ⟨b, off + i.1, none⟩ = some e) ∧ Rats E w e (t[i.1]'i.2) := by
    intro i
    obtain ⟨b, off, A', n', c', ha, x1, x2⟩ := h3 i.1 _ (List.getElem?_eq_getElem i.2)
    exact ⟨_, ⟨_, _, _, rfl⟩, ⟨b, off, ha, x1⟩, x2⟩
  obtain ⟨f, hf⟩ := Classical.axiomOfChoice hk
  have hget : ∀ i (hi : i < t.length), (List.ofFn f)[i]? = some (f ⟨i, hi⟩) := fun i hi => by rw [List.getElem?_ofFn, dif_pos hi]
  have hlen : (List.ofFn f).length = t.length := List.length_ofFn
  have hmem : ∀ e ∈ List.ofFn f, ∃ A n c, e = .slice A n c := fun e he => by
    obtain ⟨i, hi⟩ := List.getElem?_of_mem he
    have hil : i < t.length := by rw [← hlen]; exact (List.getElem?_eq_some_iff.1 hi).1
    rw [hget i hil] at hi
    injection hi with hi
    rw [← hi]; exact (hf ⟨i, hil⟩).1
  obtain ⟨b, off, hA, -⟩ := (hf ⟨0, hl⟩).2.1
  refine ⟨List.ofFn f, hlen, hmem, ⟨by rw [hlen]; omega, fun u hu => ?_, .inr ⟨⟨b, off, none⟩, c, by rw [hA], fun j u hj => ?_⟩⟩, ?_⟩
  · obtain ⟨A, n, c, rfl⟩ := hmem u hu; rfl
  · rw [Go.WideShapes.add_plain]
    have hjl : j < t.length := by rw [← hlen]; exact (List.getElem?_eq_some_iff.1 hj).1
    rw [hget j hjl] at hj
    injection hj with hj
    obtain ⟨b', off', hA', hc⟩ := (hf ⟨j, hjl⟩).2.1
    rw [hA] at hA'
    injection hA' with hA'; injection hA' with hb ho
    subst hb ho
    rw [← hj]; exact hc
  · intro i e row hi hr
    have hil : i < t.length := by rw [← hlen]; exact (List.getElem?_eq_some_iff.1 hi).1
    rw [hget i hil] at hi
    rw [List.getElem?_eq_getElem hil] at hr
    injection hi with hi; injection hr with hr
    rw [← hi, ← hr]; exact (hf ⟨i, hil⟩).2.2

/-- 'append([][]api.Rat{}, t...)' of what came in -/
theorem wpList_append_tab {w : World} {ops : Array Oper} {rest : List Oper} {o : Oper} {a : Act} {Q : Exit → Act → World → Prop} (hgd : o.guard = none) (s x : Operand)
    (ho : o.op = .call { callee := .builtin .append, args := #[s, x], argTypes := #[22, 22] })
    {k lo : Nat} {v vt : Value} {t : List (List Rat)} {w0 : World} (hs : a.eval s = v) (hown : w.ownsRow lo 23 1 v 0 []) (hx : a.eval x = vt) (hB : lo ≤ w.heap.size)
    (h0 : Tab (ERaw k) w0 vt t) (hL : Later w0 w) (hpos : 0 < t.length) (hlen : t.length ≤ 1000000000) (hBl : w0.heap.size ≤ lo)
    (h : ∀ v' w', OutTab (ERaw k) w' (fun b => b < w0.heap.size) lo v' t → w.grownBy w' v.ownBlock → wpList Tryz.prog ops Q rest (a.put o.dst v') w') :
    wpList Tryz.prog ops Q (o :: rest) a w := by
  obtain ⟨A, n, c, rfl, hn, -⟩ := h0.form
  obtain ⟨es, h1, h3, h4, h6⟩ := h0.list hpos
  rw [hn] at h4
  refine wpList_append_src hgd s x _ ho lo 23 (.slice none 0 0) 1 24 Tryz.underlying22 info_row rfl (by omega) (by omega) v 0 [] hs hown _ t.length es (by rw [hx, hn]) (h4.later hL) (by omega) hB ?_
  intro v' w' k1 k2 k3
  rw [Nat.zero_add, List.nil_append] at k1
  have hlt := World.ownsRow.lt k1
  have hvl := World.ownsRow.lt hown
  refine h v' w' ⟨es, h1, k1, h3, ?_⟩ k2
  have h5 : On w0 (fun b => b < w0.heap.size) (fun W => ∀ i e, i < es.length → es[i]? = some e → ∀ row, t[i]? = some row → Rats (ERaw k) W e row) := On.list_ (T := fun i e W => ∀ row, t[i]? = some row → Rats (ERaw k) W e row) es.length (fun i => es[i]?) (fun i e hi he => by
    obtain ⟨q, hq⟩ : ∃ q, t[i]? = some q := ⟨t[i]'(by omega), List.getElem?_eq_getElem _⟩
    refine (On.ratsRaw (h6 i e q he hq)).map fun W hW q' hq' => ?_
    rw [hq] at hq'; injection hq' with hq'; rw [← hq']; exact hW)
  refine ((h5.later hL).beside (P' := fun b => b < w0.heap.size ∧ some b ≠ v'.ownBlock) k2 fun b hb hlt2 => ⟨fun e => by have := (hvl b e.symm).1; omega, hb, fun e => by have := (hlt b e.symm).1; omega⟩).map fun W hW i e row hi hr => hW i e (List.getElem?_eq_some_iff.1 hi).1 hi row hr
/-- 'append([]api.Rat{}, b...)' of what came in -/
theorem wpList_append_rats {w : World} {ops : Array Oper} {rest : List Oper} {o : Oper} {a : Act} {Q : Exit → Act → World → Prop} (hgd : o.guard = none) (s x : Operand)
    (ho : o.op = .call { callee := .builtin .append, args := #[s, x], argTypes := #[23, 23] })
    {E : Elem} {lo B : Nat} {v vt : Value} {l : List Rat} (hs : a.eval s = v) (hown : w.ownsRow lo 37 4 v 0 []) (hx : a.eval x = vt) (hB : lo ≤ w.heap.size)
    (hsrc : Rats (EOn (fun b => b < B) E) w vt l) (hpos : 0 < l.length) (hlen : l.length ≤ 1000000000) (hBl : B ≤ lo)
    (h : ∀ v' w', OutRats E w' (fun b => b < B) lo v' l → w.grownBy w' v.ownBlock → wpList Tryz.prog ops Q rest (a.put o.dst v') w') :
    wpList Tryz.prog ops Q (o :: rest) a w := by
  obtain ⟨A, n, c, rfl, hn, -, -, h'⟩ := hsrc.form
  obtain ⟨b, off, rfl⟩ : ∃ b off, A = some ⟨b, off, none⟩ := by
    obtain ⟨b, off, _, _, _, _, _, _, _, _, e, -⟩ := h'.at_ (List.getElem?_eq_getElem hpos)
    exact ⟨b, off, e⟩
  obtain ⟨es, h1, h3, h4, h6⟩ := h'.list hn
  rw [hn] at h4
  refine wpList_append_src hgd s x _ ho lo 37 (.agg #[.bool false, .slice none 0 0, .bool false, .slice none 0 0]) 4 64 Tryz.underlying23 info_rat rfl (by omega) (by omega) v 0 [] hs hown _ l.length _ (by rw [hx, hn]) h4 (by omega) hB ?_
  intro v' w' k1 k2 k3
  rw [Nat.zero_add, List.nil_append] at k1
  have hlt := World.ownsRow.lt k1
  have hvl := World.ownsRow.lt hown
  refine h v' w' ⟨es, h1, k1, h3, ?_⟩ k2
  have h5 : On w (fun b => b < B) (fun W => ∀ i e, i < es.length → es[i]? = some e → ∀ q, l[i]? = some q → E W (.agg #[.bool e.1, e.2.1, .bool e.2.2.1, e.2.2.2]) q) := On.list_ (T := fun i e W => ∀ q, l[i]? = some q → E W (.agg #[.bool e.1, e.2.1, .bool e.2.2.1, e.2.2.2]) q) es.length (fun i => es[i]?) (fun i e hi he => by
    obtain ⟨q, hq⟩ : ∃ q, l[i]? = some q := ⟨l[i]'(by omega), List.getElem?_eq_getElem _⟩
    refine (show On w (fun b => b < B) _ from h6 i e q he hq).map fun W hW q' hq' => ?_
    rw [hq] at hq'; injection hq' with hq'; rw [← hq']; exact hW)
  refine (h5.beside (P' := fun b => b < B ∧ some b ≠ v'.ownBlock) k2 fun b hb hlt2 => ⟨fun e => by have := (hvl b e.symm).1; omega, hb, fun e => by have := (hlt b e.symm).1; omega⟩).map fun W hW i e q hi hq => hW i e (List.getElem?_eq_some_iff.1 hi).1 hi q hq
end Go.Proofs.YthncinngkfflgaaGreat
