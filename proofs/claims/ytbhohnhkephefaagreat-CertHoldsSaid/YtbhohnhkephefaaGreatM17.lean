import Derived.Test.YtbhohnhkephefaaGreatM14
import Derived.Test.YtbhohnhkephefaaGreatM12
import Derived.Test.YtbhohnhkephefaaGreatM15
import Derived.ProofKit
import Derived.Deep.Slices

/- Tables whose rows, or columns, stand the other way round; a row so many times; sums of products. No program is in sight here. -/
set_option linter.unusedVariables false
set_option linter.unusedSimpArgs false
namespace Go.Proofs.YtbhohnhkephefaaGreat

theorem sumTo_front (n : Nat) (f : Nat → Rat) : sumTo (n+1) f = f 0 + sumTo n (fun k => f (k+1)) := by
  induction n with
  | zero => simp only [sumTo]; grind
  | succ n ih => rw [sumTo, ih]; simp only [sumTo]; grind
theorem sumTo_rev (n : Nat) (f : Nat → Rat) : sumTo n (fun k => f (n-1-k)) = sumTo n f := by
  induction n generalizing f with
  | zero => rfl
  | succ n ih =>
    rw [sumTo_front]
    have h : sumTo n (fun k => f (n+1-1-(k+1))) = sumTo n f := by
      rw [← ih f]; exact sumTo_congr (fun k hk => by congr 1; omega)
    rw [h, show n+1-1-0 = n by omega]
    simp only [sumTo]; grind

theorem sing_iff (n : Nat) (M : Nat → Nat → Rat) : SingF n M ↔ ∃ z : Nat → Rat, (∃ k, k < n ∧ z k ≠ 0) ∧ SolF n M (fun _ => 0) z := Iff.rfl

theorem sol_rows1 {n : Nat} {M N : Nat → Nat → Rat} {b c x : Nat → Rat} (h : ∀ i k, i < n → k < n → N i k = M (n-1-i) k) (hb : ∀ i, i < n → c i = b (n-1-i)) (hx : SolF n M b x) : SolF n N c x := by
  intro i hi
  rw [sumTo_congr (g := fun k => M (n-1-i) k * x k) (fun k hk => by rw [h i k hi hk]), hx (n-1-i) (by omega), hb i hi]
theorem sol_rows {n : Nat} {M N : Nat → Nat → Rat} {b c x : Nat → Rat} (h : ∀ i k, i < n → k < n → N i k = M (n-1-i) k) (hb : ∀ i, i < n → c i = b (n-1-i)) : SolF n N c x ↔ SolF n M b x := by
  refine ⟨sol_rows1 (fun i k hi hk => ?_) (fun i hi => ?_), sol_rows1 h hb⟩
  · rw [h (n-1-i) k (by omega) hk, show n-1-(n-1-i) = i by omega]
  · rw [hb (n-1-i) (by omega), show n-1-(n-1-i) = i by omega]
theorem sing_rows {n : Nat} {M N : Nat → Nat → Rat} (h : ∀ i k, i < n → k < n → N i k = M (n-1-i) k) : SingF n N ↔ SingF n M := by
  rw [sing_iff, sing_iff]
  constructor
  · rintro ⟨z, hz, hs⟩; exact ⟨z, hz, (sol_rows (b := fun _ => 0) h (fun _ _ => rfl)).1 hs⟩
  · rintro ⟨z, hz, hs⟩; exact ⟨z, hz, (sol_rows (b := fun _ => 0) h (fun _ _ => rfl)).2 hs⟩

theorem sol_cols {n : Nat} {M N : Nat → Nat → Rat} {b x : Nat → Rat} (h : ∀ i k, i < n → k < n → N i k = M i (n-1-k)) : SolF n N b x ↔ SolF n M b (fun k => x (n-1-k)) := by
  have key : ∀ i, i < n → sumTo n (fun k => N i k * x k) = sumTo n (fun k => M i k * x (n-1-k)) := fun i hi => by
    rw [← sumTo_rev n (fun k => M i k * x (n-1-k))]
    exact sumTo_congr fun k hk => by rw [h i k hi hk, show n-1-(n-1-k) = k by omega]
  constructor
  · intro hs i hi; show sumTo n (fun k => M i k * x (n-1-k)) = b i; rw [← key i hi]; exact hs i hi
  · intro hs i hi; rw [key i hi]; exact hs i hi
theorem sing_cols {n : Nat} {M N : Nat → Nat → Rat} (h : ∀ i k, i < n → k < n → N i k = M i (n-1-k)) : SingF n N ↔ SingF n M := by
  rw [sing_iff, sing_iff]
  constructor
  · rintro ⟨z, ⟨k, hk, hz⟩, hs⟩
    exact ⟨fun k => z (n-1-k), ⟨n-1-k, by omega, by show z (n-1-(n-1-k)) ≠ 0; rw [show n-1-(n-1-k) = k by omega]; exact hz⟩, (sol_cols h).1 hs⟩
  · rintro ⟨z, ⟨k, hk, hz⟩, hs⟩
    refine ⟨fun k => z (n-1-k), ⟨n-1-k, by omega, by show z (n-1-(n-1-k)) ≠ 0; rw [show n-1-(n-1-k) = k by omega]; exact hz⟩, (sol_cols h).2 ?_⟩
    intro i hi
    rw [sumTo_congr (g := fun k => M i k * z k) (fun k hk => by show M i k * z (n-1-(n-1-k)) = M i k * z k; rw [show n-1-(n-1-k) = k by omega])]
    exact hs i hi

theorem sol_scaled {n i : Nat} {M N : Nat → Nat → Rat} {b c x : Nat → Rat} {q : Rat} (hq : q ≠ 0) (h : ∀ a k, a < n → k < n → N a k = if a = i then q * M i k else M a k) (hc : ∀ a, a < n → c a = if a = i then b i * q else b a) :
    SolF n N c x ↔ SolF n M b x := by
  have key : ∀ a, a < n → sumTo n (fun k => N a k * x k) = if a = i then q * sumTo n (fun k => M i k * x k) else sumTo n (fun k => M a k * x k) := fun a ha => by
    by_cases e : a = i
    · subst e
      rw [if_pos rfl, sumTo_congr (g := fun k => q * (M a k * x k) + 0 * 0) (fun k hk => by rw [h a k ha hk, if_pos rfl]; grind), sumTo_lin n (fun k => M a k * x k) (fun _ => 0)]; grind
    · rw [if_neg e]; exact sumTo_congr fun k hk => by rw [h a k ha hk, if_neg e]
  constructor
  · intro hs a ha
    have h1 := hs a ha
    rw [key a ha, hc a ha] at h1
    by_cases e : a = i
    · subst e; rw [if_pos rfl, if_pos rfl] at h1
      have h2 : q * (sumTo n (fun k => M a k * x k) - b a) = 0 := by grind
      rcases Rat.mul_eq_zero.1 h2 with h3 | h3
      · exact absurd h3 hq
      · grind
    · rw [if_neg e, if_neg e] at h1; exact h1
  · intro hs a ha
    rw [key a ha, hc a ha]
    by_cases e : a = i
    · subst e; rw [if_pos rfl, if_pos rfl, hs a ha]; grind
    · rw [if_neg e, if_neg e]; exact hs a ha
theorem sing_scaled {n i : Nat} {M N : Nat → Nat → Rat} {q : Rat} (hq : q ≠ 0) (h : ∀ a k, a < n → k < n → N a k = if a = i then q * M i k else M a k) : SingF n N ↔ SingF n M := by
  rw [sing_iff, sing_iff]
  have hc : ∀ a, a < n → (fun _ : Nat => (0 : Rat)) a = if a = i then (fun _ : Nat => (0 : Rat)) i * q else (fun _ : Nat => (0 : Rat)) a := fun a _ => by
    show (0 : Rat) = if a = i then 0 * q else 0
    split <;> grind
  constructor
  · rintro ⟨z, hz, hs⟩; exact ⟨z, hz, (sol_scaled hq h hc).1 hs⟩
  · rintro ⟨z, hz, hs⟩; exact ⟨z, hz, (sol_scaled hq h hc).2 hs⟩
theorem sol_double {n : Nat} {M : Nat → Nat → Rat} {b c x y : Nat → Rat} (hc : ∀ a, a < n → c a = b a + 1 * b a) (hy : ∀ k, k < n → y k = x k + 1 * x k) (hs : SolF n M b x) : SolF n M c y := by
  intro a ha
  rw [sumTo_congr (g := fun k => 2 * (M a k * x k) + 0 * 0) (fun k hk => by rw [hy k hk]; grind), sumTo_lin n (fun k => M a k * x k) (fun _ => 0), hs a ha, hc a ha]; grind

theorem unit_sum {n : Nat} {M : Nat → Nat → Rat} (h : ∀ i k, i < n → k < n → M i k = if k = i then 1 else 0) (x : Nat → Rat) {i : Nat} (hi : i < n) : sumTo n (fun k => M i k * x k) = x i := by
  rw [sumTo_one (c := i) _ hi (fun k hk hne => by rw [h i k hi hk, if_neg hne]; grind), h i i hi hi, if_pos rfl]; grind
theorem unit_sol {n : Nat} {M : Nat → Nat → Rat} (h : ∀ i k, i < n → k < n → M i k = if k = i then 1 else 0) {b x : Nat → Rat} (hs : SolF n M b x) {i : Nat} (hi : i < n) : x i = b i := by
  rw [← unit_sum h x hi]; exact hs i hi
theorem unit_not_sing {n : Nat} {M : Nat → Nat → Rat} (h : ∀ i k, i < n → k < n → M i k = if k = i then 1 else 0) : ¬ SingF n M := by
  rintro ⟨z, ⟨k, hk, hz⟩, hs⟩
  exact hz (by rw [← unit_sum h z hk]; exact hs k hk)

/-! ### lists -/
theorem list_eq_of_getD {x y : List Rat} {n : Nat} (hx : x.length = n) (hy : y.length = n) (h : ∀ k, k < n → x.getD k 0 = y.getD k 0) : x = y := by
  apply List.ext_getElem (by omega)
  intro i h1 h2
  have := h i (by omega)
  rwa [List.getD_eq_getElem?_getD, List.getD_eq_getElem?_getD, List.getElem?_eq_getElem h1, List.getElem?_eq_getElem h2] at this
theorem getD_rev {α : Type} {x : List α} {d : α} {n k : Nat} (hx : x.length = n) (hk : k < n) : x.reverse.getD k d = x.getD (n-1-k) d := by
  rw [List.getD_eq_getElem?_getD, List.getD_eq_getElem?_getD, List.getElem?_reverse (by omega), hx]
theorem ent_rows {t : List (List Rat)} {n i : Nat} (ht : t.length = n) (hi : i < n) (k : Nat) : ent t.reverse i k = ent t (n-1-i) k := by
  unfold ent; rw [getD_rev ht hi]
theorem ent_cols {t : List (List Rat)} {n i k : Nat} (ht : t.length = n) (hr : ∀ row ∈ t, row.length = n) (hi : i < n) (hk : k < n) : ent (t.map List.reverse) i k = ent t i (n-1-k) := by
  have h1 : t[i]? = some (t[i]'(by omega)) := List.getElem?_eq_getElem _
  have h2 := hr _ (List.mem_of_getElem? h1)
  unfold ent
  rw [List.getD_eq_getElem?_getD (l := t.map List.reverse), List.getElem?_map, h1, List.getD_eq_getElem?_getD (l := t), h1]
  simp only [Option.map_some, Option.getD_some]
  rw [getD_rev h2 hk]

theorem foldl_add (l : List Rat) (x : Rat) : l.foldl (· + ·) x = x + l.foldl (· + ·) 0 := by
  induction l generalizing x with
  | nil => simp only [List.foldl_nil]; grind
  | cons y l ih => simp only [List.foldl_cons]; rw [ih (x + y), ih (0 + y)]; grind
theorem sumR_cons (x : Rat) (l : List Rat) : sumR (x :: l) = x + sumR l := by
  unfold sumR; rw [List.foldl_cons, foldl_add]; grind
theorem dotL_comm (a b : List Rat) : dotL a b = dotL b a := by
  unfold dotL
  rw [List.zipWith_comm]
  congr 2
  funext x y; grind
theorem dotL_axpy (a : List Rat) (k : Rat) : ∀ (b : List Rat), dotL (axpyL (List.replicate a.length 0) a k) b = k * dotL a b := by
  induction a with
  | nil => intro b; simp only [dotL, axpyL, List.length_nil, List.replicate_zero, List.zipWith_nil_left, sumR_nil]; grind
  | cons x a ih =>
    intro b
    cases b with
    | nil => simp only [dotL, List.zipWith_nil_right, sumR_nil]; grind
    | cons y b =>
      have h := ih b
      unfold dotL axpyL at h ⊢
      rw [List.length_cons, List.replicate_succ, List.zipWith_cons_cons, List.zipWith_cons_cons, List.zipWith_cons_cons, sumR_cons, sumR_cons, h]; grind
end Go.Proofs.YtbhohnhkephefaaGreat


/- What comes in reads as fractions, rows and tables of fractions, of whatever size. -/
set_option linter.unusedVariables false
set_option linter.unusedSimpArgs false
set_option maxRecDepth 100000
namespace Go.Proofs.YtbhohnhkephefaaGreat
open Go.RowKit Go.Shelf Go.ChangeShapes Go.WideShapes Go.Deep

section
variable {H : Type} {enc : TypeId × Value → H} {w : World} {base : Nat} {spare : Nat → Bool} {held : Bool}

theorem cellsRat : Tryz.prog.cellsOf 33 = 4 := by kernel_rfl
theorem cellsInt : Tryz.prog.cellsOf 31 = 2 := by kernel_rfl
theorem cellsBool : Tryz.prog.cellsOf 4 = 1 := by kernel_rfl
theorem cellsU32s : Tryz.prog.cellsOf 29 = 1 := by kernel_rfl
theorem cellsU32 : Tryz.prog.cellsOf 84 = 1 := by kernel_rfl
theorem cellsRats : Tryz.prog.cellsOf 23 = 1 := by kernel_rfl

theorem u32s_open {fuel : Nat} {cs : List Value} {y : DataW H × List MemPlace} (h : DataW.trod enc Tryz.prog w base spare held fuel 29 cs = some y) :
    ∃ A n c l, cs = [.slice A n c] ∧ U32s w (.slice A n c) l := by
  rcases open_ints Tryz.underlying29 Tryz.underlying84 cellsU32 h with ⟨rfl, -⟩ | ⟨a, n, c, zs, rfl, -, hl, hm, hz, -, hcell, hwf⟩
  · exact ⟨_, _, _, [], rfl, U32s.nil w⟩
  · have hzl : n ≤ zs.length := by rw [hz]; split <;> omega
    have hb : ∀ i, i < n → 0 ≤ zs.getD i 0 ∧ zs.getD i 0 < 4294967296 := fun i hi => by
      have h1 : zs.getD i 0 ∈ zs := by
        rw [List.getD_eq_getElem?_getD, List.getElem?_eq_getElem (by omega)]; exact List.getElem_mem _
      have h2 := hwf _ h1
      have h3 : 0 ≤ zs.getD i 0 ∧ zs.getD i 0 ≤ 4294967295 := by simpa [Lit.wf, IntKind.min, IntKind.max, IntKind.bits, IntKind.signed] using h2
      omega
    refine ⟨_, _, _, (List.range n).map fun i => (zs.getD i 0).toNat, rfl, ?_, some a, c, by simp, by simpa using hl, hm, by simp [nums], ?_⟩
    · intro x hx
      obtain ⟨i, hi, rfl⟩ := List.mem_map.1 hx
      have := hb i (List.mem_range.1 hi)
      omega
    · by_cases hn : n = 0
      · subst hn; left; rfl
      · right
        obtain ⟨b, off, spot⟩ := a
        have h0 := hcell 0 (by omega)
        have hs : spot = none := by simpa [Addr.add] using World.cell?_spot h0
        subst hs
        refine ⟨b, off, rfl, fun j u hj => ?_⟩
        have hjn : j < n := by
          have := (List.getElem?_eq_some_iff.1 hj).1
          simpa [nums] using this
        have h1 := hcell j (by omega)
        rw [add_plain] at h1
        rw [h1]
        have h2 := hb j hjn
        have hj2 : u = .int .u32 (((zs.getD j 0).toNat : Nat) : Int) := by
          unfold nums at hj
          rw [List.getElem?_map, List.getElem?_map, List.getElem?_range hjn] at hj
          simpa using hj.symm
        rw [hj2, Int.toNat_of_nonneg h2.1]

theorem int_open {fuel : Nat} {cs : List Value} {y : DataW H × List MemPlace} (h : DataW.trod enc Tryz.prog w base spare held fuel 31 cs = some y) :
    ∃ s A n c z k, cs = [.bool s, .slice A n c] ∧ RawI w (.agg #[.bool s, .slice A n c]) z k := by
  obtain ⟨y0, y1, m, -, hlen, h0, h1⟩ := trod_struct2 Tryz.underlying31 h
  rw [cellsInt] at hlen
  match cs, hlen with
  | [c0, c1], _ =>
    simp only [cellsBool, cellsU32s, List.drop_zero, List.drop_succ_cons, List.take_succ_cons, List.take_zero] at h0 h1
    obtain ⟨s, e0, -⟩ := DataW.trod_bool Tryz.underlying4 h0
    obtain ⟨A, n, c, l, e1, hu⟩ := u32s_open h1
    simp at e0 e1
    subst e0 e1
    exact ⟨s, A, n, c, _, _, rfl, s, A, n, c, l, rfl, hu, rfl, Nat.le_refl _⟩

theorem RawI.mono' {w : World} {v : Value} {z : Int} {k m : Nat} (h : RawI w v z k) (hm : k ≤ m) : RawI w v z m := by
  obtain ⟨a, A, n, c, l, e, hu, hz, hl⟩ := h; exact ⟨a, A, n, c, l, e, hu, hz, by omega⟩

theorem rat_open {fuel : Nat} {cs : List Value} {y : DataW H × List MemPlace} (h : DataW.trod enc Tryz.prog w base spare held fuel 33 cs = some y) :
    ∃ s A n c s' A' n' c' q, cs = [.bool s, .slice A n c, .bool s', .slice A' n' c'] ∧ EAny w (.agg #[.bool s, .slice A n c, .bool s', .slice A' n' c']) q := by
  obtain ⟨y0, y1, m, -, hlen, h0, h1⟩ := trod_struct2 Tryz.underlying33 h
  rw [cellsRat] at hlen
  match cs, hlen with
  | [c0, c1, c2, c3], _ =>
    simp only [cellsInt, List.drop_zero, List.drop_succ_cons, List.take_succ_cons, List.take_zero] at h0 h1
    obtain ⟨s, A, n, c, z, k, e0, hz⟩ := int_open h0
    obtain ⟨s', A', n', c', z', k', e1, hz'⟩ := int_open h1
    simp at e0 e1
    obtain ⟨rfl, rfl⟩ := e0
    obtain ⟨rfl, rfl⟩ := e1
    exact ⟨s, A, n, c, s', A', n', c', _, rfl, k + k', s, A, n, c, s', A', n', c', z, z', rfl, hz.mono' (by omega), hz'.mono' (by omega), rfl⟩

theorem rats_open {fuel : Nat} {cs : List Value} {y : DataW H × List MemPlace} (h : DataW.trod enc Tryz.prog w base spare held fuel 23 cs = some y) :
    ∃ A n c l, cs = [.slice A n c] ∧ Rats EAny w (.slice A n c) l := by
  rcases open_slice Tryz.underlying23 h with ⟨rfl, -⟩ | ⟨a, n, c, m, f, D, Pl, rfl, -, hl, hm, hmm, -, hx⟩
  · exact ⟨_, _, _, [], rfl, none, 0, rfl, by simp, by decide, fun i q hi => by simp at hi⟩
  · have hnm : n ≤ m := by rw [hmm]; split <;> omega
    rcases Nat.eq_zero_or_pos n with rfl | hpos
    · exact ⟨_, _, _, [], rfl, some a, c, rfl, by simp, hm, fun i q hi => by simp at hi⟩
    obtain ⟨b0, off0, spot⟩ := a
    obtain rfl : spot = none := by
      obtain ⟨cs, h1, h2⟩ := hx 0 (by omega)
      obtain ⟨s, A, n', c', s', A', n'', c'', q, rfl, hq⟩ := rat_open h2
      rw [cellsRat] at h1
      obtain ⟨-, -, h3⟩ := World.cells?_some h1
      have := World.cell?_spot (h3 0 (by omega))
      simpa [Addr.add] using this
    have key : ∀ i, i < n → ∃ q : Rat, ∃ b off s A1 n1 c1 s' A2 n2 c2, (⟨b0, off0, none⟩ : Addr) = ⟨b, off, none⟩ ∧ w.cell? ⟨b, off + i * 4, none⟩ = some (.bool s) ∧ w.cell? ⟨b, off + i * 4 + 1, none⟩ = some (.slice A1 n1 c1) ∧
        w.cell? ⟨b, off + i * 4 + 2, none⟩ = some (.bool s') ∧ w.cell? ⟨b, off + i * 4 + 3, none⟩ = some (.slice A2 n2 c2) ∧ EAny w (.agg #[.bool s, .slice A1 n1 c1, .bool s', .slice A2 n2 c2]) q := fun i hi => by
      obtain ⟨cs, h1, h2⟩ := hx i (by omega)
      obtain ⟨s, A, n', c', s', A', n'', c'', q, rfl, hq⟩ := rat_open h2
      rw [cellsRat] at h1
      obtain ⟨-, -, h3⟩ := World.cells?_some h1
      have h4 := h3 0 (by omega); have h5 := h3 1 (by omega); have h6 := h3 2 (by omega); have h7 := h3 3 (by omega)
      simp only [add_plain, Nat.add_zero] at h4 h5 h6 h7
      exact ⟨q, b0, off0, s, A, n', c', s', A', n'', c'', rfl, h4, h5, h6, h7, hq⟩
    obtain ⟨Q, hQ⟩ := choose_lt (α := Rat) key
    refine ⟨_, _, _, (List.range n).map Q, rfl, some ⟨b0, off0, none⟩, c, by simp, by simpa using hl, hm, fun i q hi => ?_⟩
    have hin : i < n := by
      have := (List.getElem?_eq_some_iff.1 hi).1
      simpa using this
    obtain ⟨b, off, s, A1, n1, c1, s', A2, n2, c2, e0, x⟩ := hQ i hin
    simp [hin] at hi
    subst hi
    exact ⟨b, off, s, A1, n1, c1, s', A2, n2, c2, by rw [e0], x⟩

theorem tab_open {fuel : Nat} {cs : List Value} {y : DataW H × List MemPlace} (h : DataW.trod enc Tryz.prog w base spare held fuel 22 cs = some y) :
    ∃ A n c t, cs = [.slice A n c] ∧ Tab EAny w (.slice A n c) t := by
  rcases open_slice Tryz.underlying22 h with ⟨rfl, -⟩ | ⟨a, n, c, m, f, D, Pl, rfl, -, hl, hm, hmm, -, hx⟩
  · exact ⟨_, _, _, [], rfl, none, 0, rfl, by simp, by decide, fun i q hi => by simp at hi⟩
  · have hnm : n ≤ m := by rw [hmm]; split <;> omega
    rcases Nat.eq_zero_or_pos n with rfl | hpos
    · exact ⟨_, _, _, [], rfl, some a, c, rfl, by simp, hm, fun i q hi => by simp at hi⟩
    obtain ⟨b0, off0, spot⟩ := a
    obtain rfl : spot = none := by
      obtain ⟨cs, h1, h2⟩ := hx 0 (by omega)
      obtain ⟨A, n', c', l, rfl, hq⟩ := rats_open h2
      rw [cellsRats] at h1
      obtain ⟨-, -, h3⟩ := World.cells?_some h1
      have := World.cell?_spot (h3 0 (by omega))
      simpa [Addr.add] using this
    have key : ∀ i, i < n → ∃ row : List Rat, ∃ b off A' n' c', (⟨b0, off0, none⟩ : Addr) = ⟨b, off, none⟩ ∧ w.cell? ⟨b, off + i, none⟩ = some (.slice A' n' c') ∧ Rats EAny w (.slice A' n' c') row := fun i hi => by
      obtain ⟨cs, h1, h2⟩ := hx i (by omega)
      obtain ⟨A, n', c', l, rfl, hq⟩ := rats_open h2
      rw [cellsRats] at h1
      obtain ⟨-, -, h3⟩ := World.cells?_some h1
      have h4 := h3 0 (by omega)
      simp only [add_plain, Nat.add_zero, Nat.mul_one] at h4
      exact ⟨l, b0, off0, A, n', c', rfl, h4, hq⟩
    obtain ⟨Q, hQ⟩ := choose_lt (α := List Rat) key
    refine ⟨_, _, _, (List.range n).map Q, rfl, some ⟨b0, off0, none⟩, c, by simp, by simpa using hl, hm, fun i q hi => ?_⟩
    have hin : i < n := by
      have := (List.getElem?_eq_some_iff.1 hi).1
      simpa using this
    obtain ⟨b, off, A1, n1, c1, e0, x⟩ := hQ i hin
    simp [hin] at hi
    subst hi
    exact ⟨b, off, A1, n1, c1, by rw [e0], x⟩

theorem arg_rat {r : Reach} {b0 : Nat} {v : Value} {d : DataW H} {p : List MemPlace} (hv : Value.okWide Tryz.prog w r b0 33 v) (h : DataW.Trod enc Tryz.prog w base spare held 33 v d p) : ∃ q, EAny w v q := by
  obtain ⟨cs, rfl, hsz⟩ := okWide_struct Tryz.underlying33 hv
  obtain ⟨fuel, hf⟩ := h
  obtain ⟨s, A, n, c, s', A', n', c', q, e, hq⟩ := rat_open hf
  have e2 : cs = #[.bool s, .slice A n c, .bool s', .slice A' n' c'] := by
    apply Array.ext'
    simpa [Value.cells] using e
  exact ⟨q, by rw [e2]; exact hq⟩
theorem arg_rats {r : Reach} {b0 : Nat} {v : Value} {d : DataW H} {p : List MemPlace} (hv : Value.okWide Tryz.prog w r b0 23 v) (h : DataW.Trod enc Tryz.prog w base spare held 23 v d p) : ∃ l, Rats EAny w v l := by
  obtain ⟨A, n, c, rfl⟩ := okWide_slice Tryz.underlying23 hv
  obtain ⟨fuel, hf⟩ := h
  obtain ⟨A', n', c', l, e, hl⟩ := rats_open hf
  simp [Value.cells] at e
  obtain ⟨rfl, rfl, rfl⟩ := e
  exact ⟨l, hl⟩
theorem arg_tab {r : Reach} {b0 : Nat} {v : Value} {d : DataW H} {p : List MemPlace} (hv : Value.okWide Tryz.prog w r b0 22 v) (h : DataW.Trod enc Tryz.prog w base spare held 22 v d p) : ∃ t, Tab EAny w v t := by
  obtain ⟨A, n, c, rfl⟩ := okWide_slice Tryz.underlying22 hv
  obtain ⟨fuel, hf⟩ := h
  obtain ⟨A', n', c', l, e, hl⟩ := tab_open hf
  simp [Value.cells] at e
  obtain ⟨rfl, rfl, rfl⟩ := e
  exact ⟨l, hl⟩
end
end Go.Proofs.YtbhohnhkephefaaGreat


/- FewRows, and the reference's Rect. -/
set_option linter.unusedVariables false
set_option linter.unusedSimpArgs false
set_option maxRecDepth 100000
namespace Go.Proofs.YtbhohnhkephefaaGreat
open Go.RowKit Go.Shelf
attribute [local go_sem ↓] Go.wp_at_zero Go.wp_at_succ

/-- the i-th row of a table -/
def RowAt (E : Elem) (w : World) (A : Option Addr) (i : Nat) (row : List Rat) : Prop :=
  ∃ b off A' n' c', A = some ⟨b, off, none⟩ ∧ w.cell? ⟨b, off + i, none⟩ = some (.slice A' n' c') ∧ Rats E w (.slice A' n' c') row
/-- what FewRows tells -/
def FewRowsPost (w : World) (v : Value) (t : List (List Rat)) (most : Nat) (e : Ending) (w' : World) : Prop := ∃ u, e = .returned (.bool u) ∧ (u = true → t.length ≤ most ∧ (∀ row ∈ t, row.length ≤ most) ∧ Tab (ERaw 1) w v t) ∧ w = w'

set_option maxHeartbeats 4000000 in
theorem fewrows_calls (w : World) (v : Value) (t : List (List Rat)) (most : Nat) (h : Tab EAny w v t) (hm : most ≤ 1000000) :
    Calls Tryz.prog 30 #[v, .int .i64 (most : Int)] w (FewRowsPost w v t most) := by
  have H := hide h
  obtain ⟨A0, nt, ct, rfl, hnt, hcap, hcm, -⟩ := h.form
  have HNT := hide hnt
  clear h hnt
  by_cases hle : most < nt
  · have t1 : decide ((most : Int) < nt) = true := by simp; omega
    go_enter Tryz.func30, Tryz.ntmps30
    go_wp2_with fail
    go_ret
    exact ⟨false, rfl, by simp, rfl⟩
  · have t1 : decide ((most : Int) < nt) = false := by simp; omega
    go_enter Tryz.func30, Tryz.ntmps30
    go_wp2_with fail
    go_loop [5] (fun i => ∃ j : Nat, j ≤ nt ∧ i = .int .i64 (j : Int) ∧ Hid (∀ i row, i < j → t[i]? = some row → row.length ≤ most ∧ RowAt (ERaw 1) w A0 i row)) (fun i => (nt - intOf i).toNat)
    case atStart => exact ⟨0, by omega, rfl, hide fun i q hi => by omega⟩
    case round =>
      obtain ⟨j, hj, rfl, hpre⟩ := hrel
      by_cases hjn : j < nt
      · obtain ⟨row, hx⟩ : ∃ row, t[j]? = some row := ⟨t[j]'(by have := HNT.out; omega), List.getElem?_eq_getElem _⟩
        obtain ⟨b1, off1, A1, n1, c1, rfl, x1, ex⟩ := H.out.at_ hx
        have EX := hide ex; have HX := hide hx
        have hj0 : (0 : Int) ≤ (j : Int) := by omega
        have hj1 : (j : Int) < nt := by omega
        clear ex hx
        go_wp2_with fail
        refine (few_calls w _ row most EX.out hm).mono ?_
        rintro e w2 ⟨u, rfl, hf, hw⟩
        subst hw
        cases u with
        | false =>
          go_wp2_with fail
          go_ret
          exact ⟨false, rfl, by simp, rfl⟩
        | true =>
          have HP : Hid (∀ i r, i < j + 1 → t[i]? = some r → r.length ≤ most ∧ RowAt (ERaw 1) w (some ⟨b1, off1, none⟩) i r) := hide fun i r hi hr => by
            by_cases hij : i < j
            · exact hpre.out i r hij hr
            · obtain rfl : i = j := by omega
              rw [HX.out] at hr
              injection hr with hr
              subst hr
              exact ⟨(hf rfl).1, b1, off1, A1, n1, c1, rfl, x1, (hf rfl).2⟩
          clear hf hpre
          go_wp2_with fail
          exact ⟨⟨j+1, by omega, by go_num, HP⟩, by simp [intOf]; omega⟩
      · obtain rfl : nt = j := by omega
        have HF : Hid (t.length ≤ most ∧ (∀ row ∈ t, row.length ≤ most) ∧ Tab (ERaw 1) w (.slice A0 nt ct) t) := hide ⟨by rw [← HNT.out]; omega, fun row hr => by
            obtain ⟨i, hi⟩ := List.getElem?_of_mem hr
            exact (hpre.out i row (by rw [HNT.out]; exact (List.getElem?_eq_some_iff.1 hi).1) hi).1,
          A0, ct, by rw [HNT.out], by rw [← HNT.out]; exact hcap, hcm, fun i row hi => (hpre.out i row (by rw [HNT.out]; exact (List.getElem?_eq_some_iff.1 hi).1) hi).2⟩
        go_wp2
        go_ret
        exact ⟨true, rfl, fun _ => HF.out, rfl⟩

end Go.Proofs.YtbhohnhkephefaaGreat
