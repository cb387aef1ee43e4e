import Derived.Test.YthncinngkfflgaaGreatM3
import Derived.Handy
import Derived.Deep.RegionHeld3

/- nat.small: a number by one limb. -/
set_option linter.unusedVariables false
set_option linter.unusedSimpArgs false
set_option maxRecDepth 100000
namespace Go.Proofs.YthncinngkfflgaaGreat
open Go.RowKit Go.Shelf

attribute [local go_sem] Oper.semAt_some

theorem row_of_full {w w' : World} {n : Nat} (h : w'.ownsRow w.heap.size 133 1 (.slice (some ⟨w.heap.size, 0, none⟩) n n) n (madeCells (Value.int .u32 0).cells (n * 1)).toList) :
    ∃ g, g = w.heap.size ∧ Row w' g 133 (nums .u32 (List.replicate n 0)) ∧ True := by
  refine ⟨_, rfl, ?_, trivial⟩
  obtain ⟨hlen, hh⟩ := h
  have hmc : (madeCells (Value.int .u32 0).cells (n * 1)).toList = List.replicate n (Value.int .u32 0) := by
    apply List.ext_getElem
    · simp [madeCells]
    · intro k hk1 hk2
      simp [madeCells, Value.cells, Nat.mod_one]
  rw [hmc] at hh hlen
  rcases hh with ⟨h, rfl⟩ | ⟨g, cap, cur, h, hb', hg', hn, hm, hsz, ht⟩
  · simp at h
  · simp only [Value.slice.injEq, Option.some.injEq, Addr.mk.injEq, and_true] at h
    obtain ⟨h5, h6⟩ := h
    have h7 : g = w.heap.size := by simpa using h5.symm
    subst h7
    have h8 : cap = n := by omega
    subst h8
    have h9 : cur.toList = List.replicate cap (Value.int .u32 0) := by
      rw [← ht]; symm; apply List.take_of_length_le; rw [Array.length_toList, hsz]; exact Nat.le_refl _
    unfold Row; rw [hg', nums_replicate, ← h9]

theorem wpListIn_make_u32 {F : Fence} {m : Nat} {w : World} {ops : Array Oper} {rest : List Oper} {o : Oper} {a : Act} {Q : Exit → Act → World → Prop}
    (hg : o.guard = none) (l : Operand) (hop : o.op = Op.makeSlice 33 l l) (L : Int) (n : Nat) (hl : a.eval l = .int .i64 L) (hL : L = (n : Int)) (b2 : n ≤ 4000000000)
    (hK : ∀ g w', w.heap.size ≤ g → Row w' g 133 (nums .u32 (List.replicate n 0)) → Later w w' → wpListIn F m Tryz.prog ops Q rest (a.put o.dst (.slice (some ⟨g, 0, none⟩) n n)) w') :
    wpListIn F m Tryz.prog ops Q (o :: rest) a w := by
  obtain ⟨i, hi, hz, hs, hb⟩ := info_parts info_u32
  refine wpListIn_plain hg fun K hK' => ?_
  obtain ⟨w', hrun, hown, hgr⟩ := run_make_full (P := Tryz.prog) w w.heap.size 33 133 i (.int .u32 0) 1 Tryz.underlying33 hi hz hs .i64 .i64 n (by rw [hb]; omega) (by unfold maxLen; omega) (Nat.le_refl _)
  subst hL
  unfold Oper.wpIn
  refine ⟨?_, ?_⟩
  · simp [Oper.about, hop]
  · rw [Oper.semAt_plain F _ _ (by rw [hop]; intro c hc'; cases hc')]
    simp [execOp, hop, hl, hrun, Result.andThen]
    obtain ⟨g, h1, h2, h3⟩ := row_of_full hown
    subst h1
    exact hK' _ _ (hK _ w' (Nat.le_refl _) h2 (Later.grown (Later.refl w) hgr (fun k hk => by cases hk)))

theorem KeepsOthers.drewN (W : World) (n : Nat) : KeepsOthers W (W.drewN n) := ⟨Nat.le_refl _, fun _ _ h _ => h⟩
theorem row_own {W W' : World} {g : Nat} {t : TypeId} {cs : List Value} {row : Option Nat} (h : Row W g t cs) (hg : W.grownBy W' row) (hr : ∀ r, row = some r → ∃ o : Obj, W.heap[r]? = some o ∧ o.isCells = false) : Row W' g t cs := by
  refine h.grown hg fun e => ?_
  obtain ⟨o, ho, hc⟩ := hr g e.symm
  unfold Row at h
  rw [h] at ho; cases ho; cases hc

set_option maxHeartbeats 8000000 in
theorem small_in (w : World) (v : Value) (a : List Nat) (d : Nat) (h : U32s w v a) (ha : a.length ≤ 1000000000) (ha0 : 0 < a.length) (hd : 0 < d) (hdl : d < 4294967296) :
    CallsIn Fence.wide 10 Tryz.prog 180 #[v, .int .u32 d] w (Ret2 w fun w' q r => Own32 133 w' w.heap.size q (limbs (val a / d)) ∧ r = .int .u32 (val a % d : Nat)) := by
  have H1 := hide h
  obtain ⟨A, ca, rfl, hca, hcm, hlt, hc⟩ := h.form
  obtain ⟨b, off, rfl, hcc⟩ := hc.at_ (k := 0) (by rw [length_nums]; exact ha0)
  have hbw : b < w.heap.size := by
    obtain ⟨x, hx, hxu⟩ := nums_at (q := .u32) ha0
    exact World.block_lt_of_cell? w _ (hcc 0 _ hxu)
  obtain ⟨n, hn⟩ : ∃ n, n = a.length := ⟨_, rfl⟩
  rw [← hn] at ha ha0 hca H1; rw [← hn]
  have HN := hide hn; clear hn h hc
  refine callsIn_of_wp_marks Tryz.func180 rfl trivial ?_ rfl
  simp only [Tryz.ntmps180, List.size_toArray, List.length_cons, List.length_nil, Nat.reduceAdd, Nat.reduceSub, Array.replicate_succ, Array.replicate_zero, List.push_toArray, List.append_toArray, List.nil_append, List.cons_append]
  gi_wp2_with (first
    | (gi_at_make; refine wpListIn_make_u32 rfl (.tmp 11) rfl _ n rfl rfl (by omega) ?_; intro g w1 hg1 hr1 hb1)
    | (refine ⟨trivial, ?_⟩; gi_at_call 185; refine (backward_in Fence.wide _ trivial rfl _ _ _ _).mono ?_; rintro e w' ⟨rfl, rfl⟩)
    | (gi_at_call 185; refine (backward_in Fence.wide _ trivial rfl _ _ _ _).mono ?_; rintro e w' ⟨rfl, rfl⟩))
  obtain ⟨W0, hW0⟩ : ∃ W0, W0 = (((w1.alloc (Obj.cells #[Value.slice (some ⟨g, 0, none⟩) n n] 33)).alloc (Obj.cells #[Value.int IntKind.u32 0] 133)).alloc (Obj.cells #[Value.slice (some ⟨b, off, none⟩) n ca] 33)) := ⟨_, rfl⟩
  have hgd : w.heap.size + 1 ≤ g := by simpa using hg1
  have hgl := hr1.lt
  have rd1 := (Row.new w 133 [.int .u32 (d : Int)]).later hb1
  have hL1 : Later w w1 := ((Later.refl w).alloc _).trans hb1
  have rd : Row W0 w.heap.size 133 [.int .u32 (d : Int)] := by rw [hW0]; exact ((rd1.alloc _).alloc _).alloc _
  have rg : Row W0 g 133 (nums .u32 (List.replicate n 0)) := by rw [hW0]; exact ((hr1.alloc _).alloc _).alloc _
  have ro : Row W0 w1.heap.size 33 [.slice (some ⟨g, 0, none⟩) n n] := by rw [hW0]; exact ((Row.new w1 33 [.slice (some ⟨g, 0, none⟩) n n]).alloc _).alloc _
  have rr : Row W0 (w1.heap.size + 1) 133 [.int .u32 ((0 : Nat) : Int)] := by
    rw [hW0]
    have := Row.new (w1.alloc (Obj.cells #[Value.slice (some ⟨g, 0, none⟩) n n] 33)) 133 [.int .u32 ((0 : Nat) : Int)]
    rw [World.size_alloc] at this
    exact this.alloc _
  have rs : W0.cell? ⟨w1.heap.size + 1 + 1, 0, none⟩ = some (.slice (some ⟨b, off, none⟩) n ca) := by
    rw [hW0]
    have := Row.new ((w1.alloc (Obj.cells #[Value.slice (some ⟨g, 0, none⟩) n n] 33)).alloc (Obj.cells #[Value.int IntKind.u32 0] 133)) 33 [.slice (some ⟨b, off, none⟩) n ca]
    rw [World.size_alloc, World.size_alloc] at this
    exact this.cell rfl
  have hsz : W0.heap.size = w1.heap.size + 3 := by rw [hW0]; simp
  have hLW : Later w W0 := by rw [hW0]; exact ((hL1.alloc _).alloc _).alloc _
  have hws := hL1.size
  rw [← hW0]
  clear hW0 hr1 hg1 hb1 rd1
  have hnn := HN.out
  subst hnn
  refine wpIn_rangeFunc_ownG (α := Spot a.length) rfl (by omega) (gf := 193) (lb := #[.pointer (some ⟨w1.heap.size + 1 + 1, 0, none⟩)]) rfl trivial (enters_of Tryz.func193 (by kernel_rfl) rfl)
    (backward_stops Fence.wide (10 - 1) trivial rfl (by omega) (w1.heap.size + 1 + 1) w.heap.size b off ca a hlt ha W0 (by omega) hbw hLW.size rs (fun j u hj => hLW.cell (hcc j u hj))) KeepBox.trans (KeepBox.putObj hLW.size (by omega)) (Below.refl _ _) (fun _ => rfl)
    (fun pre W => (Row W w.heap.size 133 [.int .u32 (d : Int)] ∧ Row W w1.heap.size 33 [.slice (some ⟨g, 0, none⟩) a.length a.length] ∧ Row W (w1.heap.size + 1) 133 [.int .u32 ((smAll a.length d (pre.map (·.1))).2 : Int)] ∧ Row W g 133 (nums .u32 (smAll a.length d (pre.map (·.1))).1)) ∧ Below w.heap.size w W)
    (fun _ _ _ => False)
    (OwnFrom.and (Own.from (fun s X Y row hs hg hr => ⟨row_own hs.1 hg hr, row_own hs.2.1 hg hr, row_own hs.2.2.1 hg hr, row_own hs.2.2.2 hg hr⟩) _) (ownFrom_below (Nat.le_refl _) hLW.size))
    (fun _ _ _ _ _ hs _ _ => hs)
    ⟨⟨rd, ro, rr, rg⟩, hLW⟩
    (fun x => { tmps := #[.slice (some ⟨b, off, none⟩) a.length ca, .int .u32 (d : Int), undef, .pointer (some ⟨w.heap.size, 0, none⟩), .slice none 0 0, .int .u32 0, .pointer (some ⟨w1.heap.size, 0, none⟩), .pointer (some ⟨w1.heap.size + 1, 0, none⟩), .int .i64 (x.1.1 : Int), .int .u32 (x.1.2 : Int),
        .slice (some ⟨b, off, none⟩) a.length ca, .int .i64 a.length, .slice (some ⟨g, 0, none⟩) a.length a.length, .slice (some ⟨b, off, none⟩) a.length ca, .func (.func 193) #[] #[.pointer (some ⟨w1.heap.size + 1 + 1, 0, none⟩)], .int .i64 (x.1.1 : Int), .int .u32 (x.1.2 : Int),
        undef, undef, undef, undef, undef, undef, undef, undef, undef, undef, undef, undef, undef], defers := [] }) ?assign ?body ?done ?stop
  case assign =>
    intro l x W K hK
    simp only [spotEnc]
    gi_wp2
    exact hK
  case body =>
    rintro l pre x W ⟨⟨i1, i2, i3, i4⟩, hB⟩ hpl
    obtain ⟨⟨i, y⟩, hi, hy⟩ := x
    have hok := SmOk.all (n := a.length) hd pre
    obtain ⟨s, hs⟩ : ∃ s, s = smAll a.length d (pre.map (·.1)) := ⟨_, rfl⟩
    rw [← hs] at hok i3 i4
    have c1 := i1.cell (i := 0) (u := .int .u32 (d : Int)) rfl
    have c2 := i2.cell (i := 0) (u := .slice (some ⟨g, 0, none⟩) a.length a.length) rfl
    have c3 := i3.cell (i := 0) (u := .int .u32 (s.2 : Int)) rfl
    have f3 := i3.frozen 0
    obtain ⟨z, -, c4, f4⟩ := row_cell i4 (k := i) (by rw [hok.len]; exact hi)
    have hmx : Tryz.prog.follows .mixedOrders = true := by kernel_rfl
    have h11 : 1 ≤ 10 - 1 - 1 := by omega
    have hrd := hok.rest
    obtain ⟨r, hr⟩ : ∃ r, r = s.2 := ⟨_, rfl⟩
    rw [← hr] at c3 i3 hrd
    have HS := hide hs; have HR := hide hr; clear hs hr
    dsimp only at hi hy ⊢
    gi_wp2
    have hQ1 : Hid (((r : Int) * 4294967296 + y) / d = (((r * 4294967296 + y) / d : Nat) : Int)) := hide <| by rw [Int.natCast_ediv]; simp
    have hQ2 : Hid (((r : Int) * 4294967296 + y) % d = (((r * 4294967296 + y) % d : Nat) : Int)) := hide <| by rw [Int.natCast_emod]; simp
    have hk1 : ∀ (W' : World) (p : Nat) (o : Nat) (u : Value), p ≠ w1.heap.size → p ≠ w.heap.size → W'.cell? ⟨w1.heap.size, 0, none⟩ = some (.slice (some ⟨g, 0, none⟩) a.length a.length) ∧ W'.cell? ⟨w.heap.size, 0, none⟩ = some (.int .u32 (d : Int)) →
        (W'.setCell ⟨p, o, none⟩ u).cell? ⟨w1.heap.size, 0, none⟩ = some (.slice (some ⟨g, 0, none⟩) a.length a.length) ∧ (W'.setCell ⟨p, o, none⟩ u).cell? ⟨w.heap.size, 0, none⟩ = some (.int .u32 (d : Int)) := by
      intro W' p o u h1 h2 h3
      exact ⟨(World.cell?_setCell_other W' _ _ u (by intro e; injection e with e1; exact h1 e1)).trans h3.1, (World.cell?_setCell_other W' _ _ u (by intro e; injection e with e1; exact h2 e1)).trans h3.2⟩
    have HK := hide hk1; clear hk1
    refine wpIn_region_round (S := fun w' => w'.cell? ⟨w1.heap.size, 0, none⟩ = some (.slice (some ⟨g, 0, none⟩) a.length a.length) ∧ w'.cell? ⟨w.heap.size, 0, none⟩ = some (.int .u32 (d : Int))) hmx (by kernel_rfl) (fun _ _ h => h) ⟨c2, c1⟩ (fun hHeld => ?_)
    refine wpAnyH_take (i := 0) (oi := _) (v := ?_) rfl (by kernel_rfl) (by kernel_rfl) (by kernel_rfl) (fun _ _ _ h => h) (Or.inl ⟨by rfl, ?_⟩) (by assumption) ?_
    rotate_left
    · intro w hSw; (try dsimp only at hSw); go_simp
      first | done | with_reducible rfl
    try simp only [Act.put, List.setIfInBounds_toArray, List.set_cons_zero, List.set_cons_succ]
    refine wpAnyH_take (i := 1) (oi := _) (v := ?_) rfl (by kernel_rfl) (by kernel_rfl) (by kernel_rfl) (fun _ _ _ h => h) (Or.inl ⟨by rfl, ?_⟩) (by assumption) ?_
    rotate_left
    · intro w hSw; (try dsimp only at hSw); go_simp
      first | done | with_reducible rfl
    try simp only [Act.put, List.setIfInBounds_toArray, List.set_cons_zero, List.set_cons_succ]
    refine wpAnyH_take (i := 3) (oi := _) (v := ?_) rfl (by kernel_rfl) (by kernel_rfl) (by kernel_rfl) (fun _ _ _ h => h) (Or.inl ⟨by rfl, ?_⟩) (by assumption) ?_
    rotate_left
    · intro w hSw; (try dsimp only at hSw); go_simp
      first | done | with_reducible rfl
    try simp only [Act.put, List.setIfInBounds_toArray, List.set_cons_zero, List.set_cons_succ]
    refine wpAnyH_take (i := 4) (oi := _) (v := ?_) rfl (by kernel_rfl) (by kernel_rfl) (by kernel_rfl) (fun _ _ _ h => h) (Or.inl ⟨by rfl, ?_⟩) (by assumption) ?_
    rotate_left
    · intro w hSw; (try dsimp only at hSw); go_simp
      first | done | with_reducible rfl
    try simp only [Act.put, List.setIfInBounds_toArray, List.set_cons_zero, List.set_cons_succ]
    refine wpAnyH_ready (rs := [2]) (by kernel_rfl) (by simp) ?_
    refine AllReadyH.cons rfl (fun K hK => ?_) AllReadyH.nil
    go_simp
    refine hK.out _ _ ?_ (fun hHeld => ?_)
    · exact ⟨c2, c1⟩
    clear hK K
    try simp only [Act.put, List.setIfInBounds_toArray, List.set_cons_zero, List.set_cons_succ]
    refine wpAnyH_ready (rs := [5]) (by kernel_rfl) (by simp) ?_
    refine AllReadyH.cons rfl (fun K hK => ?_) AllReadyH.nil
    go_simp
    refine (div32_calls r y d hrd hy hdl _).mono ?_; rintro e w' ⟨rfl, nq, rfl⟩
    refine hK.out _ _ ?_ (fun hHeld => ?_)
    · exact ⟨c2, c1⟩
    clear hK K
    try simp only [Act.put, List.setIfInBounds_toArray, List.set_cons_zero, List.set_cons_succ]
    refine wpAnyH_take (i := 6) (oi := _) (v := ?_) rfl (by kernel_rfl) (by kernel_rfl) (by kernel_rfl) (fun _ _ _ h => h) (Or.inl ⟨by rfl, ?_⟩) (by assumption) ?_
    rotate_left
    · intro w hSw; (try dsimp only at hSw); go_simp
      first | done | with_reducible rfl
    try simp only [Act.put, List.setIfInBounds_toArray, List.set_cons_zero, List.set_cons_succ]
    refine wpAnyH_take (i := 7) (oi := _) (v := ?_) rfl (by kernel_rfl) (by kernel_rfl) (by kernel_rfl) (fun _ _ _ h => h) (Or.inl ⟨by rfl, ?_⟩) (by assumption) ?_
    rotate_left
    · intro w hSw; (try dsimp only at hSw); go_simp
      first | done | with_reducible rfl
    try simp only [Act.put, List.setIfInBounds_toArray, List.set_cons_zero, List.set_cons_succ]
    refine wpAnyH_take (i := 8) (oi := _) (v := ?_) rfl (by kernel_rfl) (by kernel_rfl) (by kernel_rfl) (fun _ _ _ h => h) (Or.inl ⟨by rfl, ?_⟩) (by assumption) ?_
    rotate_left
    · intro w hSw; (try dsimp only at hSw); go_simp
      first | done | with_reducible rfl
    try simp only [Act.put, List.setIfInBounds_toArray, List.set_cons_zero, List.set_cons_succ]
    refine wpAnyH_take (i := 9) (oi := _) (v := ?_) rfl (by kernel_rfl) (by kernel_rfl) (by kernel_rfl) (fun _ _ _ h => h) (Or.inl ⟨by rfl, ?_⟩) (by assumption) ?_
    rotate_left
    · intro w hSw; (try dsimp only at hSw); go_simp
      first | done | with_reducible rfl
    try simp only [Act.put, List.setIfInBounds_toArray, List.set_cons_zero, List.set_cons_succ]
    refine wpAnyH_ready (rs := [10]) (by kernel_rfl) (by simp) ?_
    refine AllReadyH.cons rfl (fun K hK => ?_) AllReadyH.nil
    go_simp
    refine hK.out _ _ ?_ (fun hHeld => ?_)
    · exact HK.out _ g i _ (by omega) (by omega) ⟨c2, c1⟩
    clear hK K
    try simp only [Act.put, List.setIfInBounds_toArray, List.set_cons_zero, List.set_cons_succ]
    refine wpAnyH_ready (rs := [11]) (by kernel_rfl) (by simp) ?_
    refine AllReadyH.cons rfl (fun K hK => ?_) AllReadyH.nil
    go_simp
    refine hK.out _ _ ?_ (fun hHeld => ?_)
    · exact HK.out _ (w1.heap.size + 1) 0 _ (by omega) (by omega) (HK.out _ g i _ (by omega) (by omega) ⟨c2, c1⟩)
    clear hK K
    try simp only [Act.put, List.setIfInBounds_toArray, List.set_cons_zero, List.set_cons_succ]
    refine wpAnyH_done (by kernel_rfl) ?_ _
    have hst : smAll a.length d ((pre ++ [(⟨(i, y), hi, hy⟩ : Spot a.length)]).map (·.1)) = (s.1.set i ((r * 4294967296 + y) / d), (r * 4294967296 + y) % d) := by
      rw [List.map_append, List.map_cons, List.map_nil, smAll_snoc, ← HS.out, HR.out]; rfl
    have i1' := (i1.far (p := ⟨g, i, none⟩) (by show w.heap.size ≠ g; omega) (.int .u32 (((r * 4294967296 + y) / d : Nat) : Int))).far (p := ⟨w1.heap.size + 1, 0, none⟩) (by show w.heap.size ≠ w1.heap.size + 1; omega) (.int .u32 (((r * 4294967296 + y) % d : Nat) : Int))
    have i2' := (i2.far (p := ⟨g, i, none⟩) (by show w1.heap.size ≠ g; omega) (.int .u32 (((r * 4294967296 + y) / d : Nat) : Int))).far (p := ⟨w1.heap.size + 1, 0, none⟩) (by show w1.heap.size ≠ w1.heap.size + 1; omega) (.int .u32 (((r * 4294967296 + y) % d : Nat) : Int))
    have i3' := (i3.far (p := ⟨g, i, none⟩) (by show w1.heap.size + 1 ≠ g; omega) (.int .u32 (((r * 4294967296 + y) / d : Nat) : Int))).set_ 0 (.int .u32 (((r * 4294967296 + y) % d : Nat) : Int))
    have i4' := (row_set (k := i) (x := (r * 4294967296 + y) / d) i4).far (p := ⟨w1.heap.size + 1, 0, none⟩) (by show g ≠ w1.heap.size + 1; omega) (.int .u32 (((r * 4294967296 + y) % d : Nat) : Int))
    show Exit.inBlock 1 _ Exit.normal _ _
    simp only [Exit.inBlock]
    rw [hQ1.out, hQ2.out]
    refine ⟨?_, ⟨?_, ?_⟩, ⟨?_, ?_, ?_, ?_⟩, ?_⟩
    · exact (((KeepsOthers.drewN W _).trans (KeepsOthers.setCell _ _ _)).trans (KeepsOthers.setCell _ _ _)).from _
    · exact (below_drewN (Below.refl w.heap.size W) _).setCell (p := ⟨g, i, none⟩) (by show _ ≤ g; omega) _ |>.setCell (p := ⟨w1.heap.size + 1, 0, none⟩) (by show _ ≤ w1.heap.size + 1; omega) _
    · rw [Below.heap_setCell _ _ _ _ (by show w1.heap.size + 1 + 1 ≠ w1.heap.size + 1; omega), Below.heap_setCell _ _ _ _ (by show w1.heap.size + 1 + 1 ≠ g; omega)]; rfl
    · exact i1'
    · exact i2'
    · rw [hst]; exact i3'
    · rw [hst]; exact i4'
    · exact (below_drewN hB _).setCell (p := ⟨g, i, none⟩) (by show _ ≤ g; omega) _ |>.setCell (p := ⟨w1.heap.size + 1, 0, none⟩) (by show _ ≤ w1.heap.size + 1; omega) _
  case done =>
    rintro D ys W hD rfl ⟨⟨i1, i2, i3, i4⟩, hB⟩ hK
    obtain ⟨l1, l2, l3⟩ := small_law a hlt d hd a.length (Nat.le_refl _)
    have hok := SmOk.all (n := a.length) hd (spots a hlt a.length)
    obtain ⟨s, hs⟩ : ∃ s, s = smAll a.length d ((spots a hlt a.length).map (·.1)) := ⟨_, rfl⟩
    rw [← hs] at hok i3 i4
    simp only [← hs, Nat.sub_self, List.drop_zero] at l1 l2 l3
    have hq : val a / d = val s.1 := by
      rw [← l2, Nat.mul_comm, Nat.mul_add_div hd, Nat.div_eq_of_lt l3, Nat.add_zero]
    have hr : val a % d = s.2 := by
      rw [← l2, Nat.mul_comm, Nat.mul_add_mod, Nat.mod_eq_of_lt l3]
    have HQ := hide hq; have HR := hide hr
    have c2 := i2.cell (i := 0) (u := .slice (some ⟨g, 0, none⟩) a.length a.length) rfl
    have c3 := i3.cell (i := 0) (u := .int .u32 (s.2 : Int)) rfl
    have HO := hide (show Own32 133 W.drew w.heap.size (.slice (some ⟨g, 0, none⟩) a.length a.length) s.1 from ⟨hok.lt, OwnNums.of_row i4.drew (by omega) hok.len (by unfold maxLen; omega)⟩)
    have HT := hide (trim_calls W.drew _ s.1 HO.out.reads (by rw [hok.len]; omega))
    have HB := hide (hB.drew)
    have hKd : W.drew.heap[D]? = some (.deferred (some [])) := hK
    have HK := hide hKd
    clear hs hok hq hr l1 l2 l3 i1 i2 i3 i4 hB hKd hK
    obtain ⟨r, hr⟩ : ∃ r, r = s.2 := ⟨_, rfl⟩
    rw [← hr] at c3 HR
    clear hr
    gi_wp2
    rename_i K hK0
    refine wpIn_wide.2 ?_
    go_region_held3 (fun w' => w'.cell? ⟨w1.heap.size, 0, none⟩ = some (.slice (some ⟨g, 0, none⟩) a.length a.length) ∧ w'.cell? ⟨w1.heap.size + 1, 0, none⟩ = some (.int .u32 (r : Int))) (first | exact ⟨c2, c3⟩ | exact ⟨bv1.cell c2, bv1.cell c3⟩) (first
      | ((with_reducible refine HT.out.mono ?_); rintro e w2 ⟨v1, rfl, ov1, bv1⟩))
    show K _ _
    refine hK0 _ _ ?_
    refine wpIn_ret ?_
    have hkd : w2.heap[D]? = some (.deferred (some [])) := by
      have hlt : D < W.drew.heap.size := (Array.getElem?_eq_some_iff.1 HK.out).1
      rw [bv1.block D hlt]; exact HK.out
    refine ⟨by simp, .inl ⟨_, _, rfl, run_takeDeferred hkd, ?_⟩⟩
    refine ⟨.tuple #[v1, .int .u32 (r : Int)], by simp [results, Tryz.results180], v1, .int .u32 (r : Int), rfl, ⟨?_, by rw [HR.out]⟩, ?_⟩
    · rw [HQ.out]
      have h1 := (ov1.weaken (B' := w.heap.size) HB.out.size)
      exact ⟨h1.1, ownsRow_putObj h1.2 _ hkd rfl⟩
    · refine (HB.out.trans (bv1.mono HB.out.size)).trans ?_
      exact belowK_b (w := w) (Nat.le_refl _) w2 D _ _ (by have := hLW.size; omega) hkd rfl rfl
  case stop =>
    rintro D c pre W _ _ h _
    exact h.elim

theorem small_calls (w : World) (v : Value) (a : List Nat) (d : Nat) (h : U32s w v a) (ha : a.length ≤ 1000000000) (ha0 : 0 < a.length) (hd : 0 < d) (hdl : d < 4294967296) :
    Calls Tryz.prog 180 #[v, .int .u32 d] w (Ret2 w fun w' q r => Own32 133 w' w.heap.size q (limbs (val a / d)) ∧ r = .int .u32 (val a % d : Nat)) :=
  callsIn_wide.1 (small_in w v a d h ha ha0 hd hdl)
end Go.Proofs.YthncinngkfflgaaGreat


/- nat.Div: quotient and rest; nat.Gcd. -/
set_option linter.unusedVariables false
set_option linter.unusedSimpArgs false
set_option maxRecDepth 100000
namespace Go.Proofs.YthncinngkfflgaaGreat
open Go.RowKit Go.Shelf

attribute [local go_sem] Oper.semAt_some

theorem limbs_last : ∀ (k n : Nat), (limbs n).length = k → ∀ x, (limbs n)[k - 1]? = some x → x ≠ 0 := by
  intro k
  induction k with
  | zero => intro n hn x hx; rw [List.length_eq_zero_iff.1 hn] at hx; simp at hx
  | succ k ih =>
    intro n hn x hx
    by_cases h0 : n = 0
    · subst h0; rw [limbs_zero] at hn; simp at hn
    · rw [limbs_pos h0] at hn hx
      simp only [List.length_cons, Nat.add_right_cancel_iff] at hn
      cases k with
      | zero =>
        have h1 := limbs_eq_nil.1 (List.length_eq_zero_iff.1 hn)
        simp at hx
        omega
      | succ k =>
        simp only [Nat.add_sub_cancel, List.getElem?_cons_succ] at hx
        exact ih _ hn x hx

theorem limbs_of_one {n : Nat} (h : (limbs n).length = 1) : limbs n = [n] ∧ n < 4294967296 ∧ 0 < n := by
  have h0 : n ≠ 0 := by intro e; subst e; rw [limbs_zero] at h; simp at h
  have h1 := h
  rw [limbs_pos h0] at h1
  simp only [List.length_cons] at h1
  have h2 := limbs_eq_nil.1 (List.length_eq_zero_iff.1 (Nat.succ.inj h1))
  have h3 : n < 4294967296 := by omega
  rw [limbs_pos h0, h2, limbs_zero, Nat.mod_eq_of_lt h3]
  exact ⟨rfl, h3, by omega⟩

theorem own_nil (T : TypeId) (w : World) (B : Nat) : Own32 T w B (.slice none 0 0) [] := ⟨AllLt.nil, OwnNums.nil _ _ _ _⟩

set_option maxHeartbeats 1000000 in
theorem div_calls (w : World) (v u : Value) (a b : List Nat) (h : U32s w v a) (h' : U32s w u b) (ha : a.length ≤ 1000000000) (hb : b.length ≤ 1000000000) (hpos : 0 < val b) :
    Calls Tryz.prog 164 #[v, u] w (Ret3 w fun w' q r ok => Own32 133 w' w.heap.size q (limbs (val a / val b)) ∧ Own32 133 w' w.heap.size r (limbs (val a % val b)) ∧ ok = .bool true) := by
  obtain ⟨x, hx⟩ : ∃ x, x = val a := ⟨_, rfl⟩
  obtain ⟨y, hy⟩ : ∃ y, y = val b := ⟨_, rfl⟩
  rw [← hy] at hpos
  rw [← hx, ← hy]
  have la := length_limbs_val h.1
  have lb := length_limbs_val h'.1
  rw [← hx] at la; rw [← hy] at lb
  have H := hide h; have H' := hide h'; have HVX := hide hx; have HVY := hide hy
  clear hx hy h h'
  go_enter Tryz.func164, Tryz.ntmps164
  go_wp2_with fail
  refine (trim_calls _ _ a H.out (by omega)).mono ?_
  rintro e w1 ⟨v1, rfl, o1, b1⟩
  go_wp2_with fail
  refine (trim_calls _ _ b (H'.out.later b1) (by omega)).mono ?_
  rintro e w2 ⟨v2, rfl, o2, b2⟩
  rw [← HVX.out] at o1; rw [← HVY.out] at o2
  have o1' := o1.later b2
  have bb := b1.trans b2
  obtain ⟨n1, hn1⟩ : ∃ n, n = (limbs x).length := ⟨_, rfl⟩
  obtain ⟨n2, hn2⟩ : ∃ n, n = (limbs y).length := ⟨_, rfl⟩
  obtain ⟨A1, c1, f1, hc1, -⟩ := o1'.reads.form
  obtain ⟨A2, c2, f2, hc2, -, -, hcc⟩ := o2.reads.form
  rw [← hn1] at f1 hc1; rw [← hn2] at f2 hc2
  subst f1 f2
  have hp2 := length_limbs_pos.2 (Nat.pos_iff_ne_zero.1 hpos)
  rw [← hn1] at la; rw [← hn2] at lb hp2
  have HX := hide hn1; have HY := hide hn2
  have t0 : ((n2 : Int) == 0) = false := by simp; omega
  by_cases hlt : n1 < n2
  · have hxy : x < y := lt_of_length_lt (by rw [← hn1, ← hn2]; exact hlt)
    have HQ := hide (Nat.div_eq_of_lt hxy); have HR := hide (Nat.mod_eq_of_lt hxy)
    clear hn1 hn2 hc1 hc2 hxy
    have t1 : decide (n1 < n2) = true := by simp; omega
    have t1' : decide ((n1 : Int) < n2) = true := by simp; omega
    go_wp2_with fail
    go_ret3
    refine ⟨_, _, _, rfl, ⟨?_, ?_, rfl⟩, bb⟩
    · rw [HQ.out, limbs_zero]; exact own_nil _ _ _
    · rw [HR.out]; exact o1'
  · have t1 : decide (n1 < n2) = false := by simp; omega
    have t1' : decide ((n1 : Int) < n2) = false := by simp; omega
    by_cases h1 : n2 = 1
    · subst h1
      have h3 := limbs_of_one hn2.symm
      obtain ⟨h6, h4, h5⟩ := h3
      have HL := hide h6
      rw [h6] at hcc
      obtain ⟨bb2, ob2, rfl, hcc2⟩ := hcc.at_ (k := 0) (by simp [nums])
      have hcl := hcc2 0 (.int .u32 (y : Int)) rfl
      simp only [Nat.add_zero] at hcl
      have HS := small_calls w2 _ (limbs x) y o1'.reads (by rw [← hn1]; omega) (by rw [← hn1]; omega) hpos h4
      rw [val_limbs] at HS
      have HS := hide HS
      have h7 : x % y < 4294967296 := Nat.lt_trans (Nat.mod_lt _ hpos) h4
      obtain ⟨m, hm⟩ : ∃ m, m = x % y := ⟨_, rfl⟩
      rw [← hm] at HS h7
      have HM := hide hm; clear hm
      clear hn1 hn2 hcc hcc2 hc1 hc2
      have t2 : ((1 : Int) == 1) = true := rfl
      go_wp2_with fail
      refine (HS.out).mono ?_
      rintro e w3 ⟨q, r, rfl, ⟨oq, rfl⟩, b3⟩
      go_wp2_with fail
      have hb4 : Later w2 (w3.alloc (Obj.cells #[Value.int IntKind.u32 (m : Int)] 133)) := b3.alloc _
      have hrow := Row.new w3 133 (nums .u32 [m])
      have hu : U32s (w3.alloc (Obj.cells #[Value.int IntKind.u32 (m : Int)] 133)) (.slice (some ⟨w3.heap.size, 0, none⟩) 1 1) [m] :=
        ⟨AllLt.cons h7 AllLt.nil, (OwnNums.of_row (B := 0) hrow (Nat.zero_le _) rfl (by simp [maxLen])).reads⟩
      refine (trim_calls _ _ [m] hu (by simp)).mono ?_
      rintro e w4 ⟨v4, rfl, o4, b4⟩
      go_wp2_with fail
      go_ret3
      have hm0 : val [m] = m := by simp
      rw [hm0, HM.out] at o4
      have hs3 := b3.size
      have hsb := bb.size
      refine ⟨_, _, _, rfl, ⟨(oq.weaken hsb).later (((Later.refl w3).alloc _).trans b4), o4.weaken ?_, rfl⟩, (bb.trans hb4).trans b4⟩
      simp; omega
    · have t2 : ((n2 : Int) == 1) = false := by simp; omega
      have HS := hide (long_calls w2 _ _ (limbs x) (limbs y) o1'.reads o2.reads (by rw [← hn1]; omega) (by rw [← hn2]; omega) (by rw [← hn1, ← hn2]; omega) (limbs_last _ _ rfl))
      clear hn1 hn2 hcc hc1 hc2
      go_wp2_with fail
      refine (HS.out).mono ?_
      rintro e w3 ⟨q, r, rfl, ⟨oq, or⟩, b3⟩
      go_wp2_with fail
      go_ret3
      rw [val_limbs, val_limbs] at oq or
      exact ⟨_, _, _, rfl, ⟨oq.weaken bb.size, or.weaken bb.size, rfl⟩, bb.trans b3⟩

/-! ### Gcd -/
theorem U32s.unique {w : World} {v : Value} {l m : List Nat} (h : U32s w v l) (k : U32s w v m) : l = m := by
  obtain ⟨A, c, rfl, -, -, -, hc⟩ := h.form
  obtain ⟨A', c', e, -, -, -, kc⟩ := k.form
  injection e with e1 e2 e3
  subst e1
  have hl : l.length = m.length := by omega
  apply List.ext_getElem hl
  intro i h1 h2
  obtain ⟨b, off, rfl, hx⟩ := hc.at_ (k := 0) (by rw [length_nums]; omega)
  obtain ⟨b', off', e, kx⟩ := kc.at_ (k := 0) (by rw [length_nums]; omega)
  injection e with e; injection e with e4 e5; subst e4 e5
  have a1 := hx i _ (nums_get (List.getElem?_eq_getElem h1))
  have a2 := kx i _ (nums_get (List.getElem?_eq_getElem h2))
  rw [a1] at a2
  injection a2 with a2; injection a2 with _ a3
  omega

/-- the number that a slice holds -/
noncomputable def natOf (v : Value) (w : World) : Nat := Classical.epsilon (fun n => ∃ l, U32s w v l ∧ val l = n)
theorem natOf_eq {w : World} {v : Value} {l : List Nat} (h : U32s w v l) : natOf v w = val l := by
  have := Classical.epsilon_spec (p := fun n => ∃ l, U32s w v l ∧ val l = n) ⟨val l, l, h, rfl⟩
  obtain ⟨m, hm, e⟩ := this
  rw [natOf, ← e, h.unique hm]

def GcdRel (w : World) (g : Nat) (va vb : Value) (w' : World) : Prop :=
  ∃ x y : Nat, Own32 133 w' w.heap.size va (limbs x) ∧ Own32 133 w' w.heap.size vb (limbs y) ∧ Nat.gcd x y = g ∧ (limbs x).length ≤ 1000000000 ∧ (limbs y).length ≤ 1000000000 ∧ Later w w'

set_option maxHeartbeats 1000000 in
theorem gcd_calls (w : World) (v u : Value) (a b : List Nat) (h : U32s w v a) (h' : U32s w u b) (ha : a.length ≤ 1000000000) (hb : b.length ≤ 1000000000) :
    Calls Tryz.prog 162 #[v, u] w (Ret w fun w' g => Own32 133 w' w.heap.size g (limbs (Nat.gcd (val a) (val b)))) := by
  obtain ⟨g, hg⟩ : ∃ g, g = Nat.gcd (val a) (val b) := ⟨_, rfl⟩
  rw [← hg]
  have la := length_limbs_val h.1
  have lb := length_limbs_val h'.1
  have H := hide h; have H' := hide h'; have HG := hide hg
  clear hg h h'
  go_enter Tryz.func162, Tryz.ntmps162
  go_wp2_with fail
  refine (trim_calls _ _ a H.out (by omega)).mono ?_
  rintro e w1 ⟨v1, rfl, o1, b1⟩
  go_wp2_with fail
  refine (trim_calls _ _ b (H'.out.later b1) (by omega)).mono ?_
  rintro e w2 ⟨v2, rfl, o2, b2⟩
  have HR := hide (show GcdRel w g v1 v2 w2 from ⟨val a, val b, o1.later b2, o2.weaken b1.size, HG.out.symm, by omega, by omega, b1.trans b2⟩)
  clear o1 o2 b1 b2 la lb
  go_wp2_with fail
  go_loopw [0, 1] (fun va vb w' => GcdRel w g va vb w') (fun _ vb w' => natOf vb w')
  case atStart => exact HR.out
  case round =>
    obtain ⟨x, y, ox, oy, hgc, hx, hy, hbl⟩ := hrel
    obtain ⟨A1, c1, f1, hc1, -⟩ := ox.reads.form
    obtain ⟨A2, c2, f2, hc2, -⟩ := oy.reads.form
    obtain ⟨n1, hn1⟩ : ∃ n, n = (limbs x).length := ⟨_, rfl⟩
    obtain ⟨n2, hn2⟩ : ∃ n, n = (limbs y).length := ⟨_, rfl⟩
    rw [← hn1] at f1 hc1; rw [← hn2] at f2 hc2
    subst f1 f2
    by_cases h0 : y = 0
    · subst h0
      rw [limbs_zero] at hn2
      simp only [List.length_nil] at hn2
      subst hn2
      rw [Nat.gcd_zero_right] at hgc
      subst hgc
      clear hc1 hc2 hn1 oy
      go_wp2_with fail
      go_ret
      exact ⟨_, rfl, ox, hbl⟩
    · have hp := length_limbs_pos.2 h0
      rw [← hn2] at hp
      have hD := hide (div_calls wr _ _ (limbs x) (limbs y) ox.reads oy.reads (by omega) (by omega) (by rw [val_limbs]; omega))
      have t0 : decide (0 < n2) = true := by simp; omega
      have t1 : decide ((0 : Int) < (n2 : Int)) = true := by simp; omega
      have HC := hide hgc; have HN1 := hide hn1; have HN2 := hide hn2
      have HE := hide (natOf_eq oy.reads)
      have hy' := hy
      clear hc1 hc2 hn1 hn2 hp hgc hx hy
      go_wp2_with fail
      refine hD.out.mono ?_
      rintro e w3 ⟨q, r, ok, rfl, ⟨oq, or, rfl⟩, b3⟩
      go_wp2_with fail
      go_roundw
      case rel =>
        rw [val_limbs, val_limbs] at or
        refine ⟨y, x % y, oy.later b3, or.weaken hbl.size, ?_, hy', ?_, hbl.trans b3⟩
        · rw [← HC.out, Nat.gcd_comm y, ← Nat.gcd_rec, Nat.gcd_comm]
        · exact Nat.le_trans (length_limbs_mono (Nat.le_of_lt (Nat.mod_lt x (Nat.pos_of_ne_zero h0)))) hy'
      case measure =>
        show natOf r w3 < natOf _ wr
        rw [natOf_eq or.reads, HE.out]; simp only [val_limbs]
        exact Nat.mod_lt _ (Nat.pos_of_ne_zero h0)
end Go.Proofs.YthncinngkfflgaaGreat


/- Whole numbers: of, Plain, not. -/
set_option linter.unusedVariables false
set_option linter.unusedSimpArgs false
set_option maxRecDepth 100000
namespace Go.Proofs.YthncinngkfflgaaGreat
open Go.RowKit Go.Shelf

/-- a sign and how great -/
def sgn (neg : Bool) (n : Nat) : Int := if neg then -(n : Int) else n
/-- a whole number as the program may be handed it: so many limbs at most -/
def RawI (w : World) (v : Value) (z : Int) (k : Nat) : Prop := ∃ neg A n c l, v = .agg #[.bool neg, .slice A n c] ∧ U32s w (.slice A n c) l ∧ z = sgn neg (val l) ∧ l.length ≤ k
/-- a whole number, plain, its limbs from block B on -/
def OwnI (w : World) (B : Nat) (v : Value) (z : Int) : Prop := ∃ A n c, v = .agg #[.bool (decide (z < 0)), .slice A n c] ∧ Own32 133 w B (.slice A n c) (limbs z.natAbs)

theorem RawI.later {w w' : World} {v : Value} {z : Int} {k : Nat} (h : RawI w v z k) (hb : Later w w') : RawI w' v z k := by
  obtain ⟨n, A, m, c, l, e, h, e', hk⟩ := h; exact ⟨n, A, m, c, l, e, h.later hb, e', hk⟩
theorem OwnI.later {w w' : World} {B : Nat} {v : Value} {z : Int} (h : OwnI w B v z) (hb : Later w w') : OwnI w' B v z := by
  obtain ⟨A, n, c, e, h⟩ := h; exact ⟨A, n, c, e, h.later hb⟩
theorem OwnI.weaken {w : World} {B C : Nat} {v : Value} {z : Int} (h : OwnI w B v z) (hC : C ≤ B) : OwnI w C v z := by
  obtain ⟨A, n, c, e, h⟩ := h; exact ⟨A, n, c, e, h.weaken hC⟩
theorem sgn_self (z : Int) : sgn (decide (z < 0)) z.natAbs = z := by
  unfold sgn; split <;> rename_i h <;> simp at h <;> omega
theorem natAbs_sgn (b : Bool) (n : Nat) : (sgn b n).natAbs = n := by
  unfold sgn; split <;> omega
theorem neg_sgn (b : Bool) (n : Nat) : decide (sgn b n < 0) = (b && decide (0 < n)) := by
  unfold sgn; cases b <;> simp <;> omega
theorem OwnI.raw {w : World} {B : Nat} {v : Value} {z : Int} {k : Nat} (h : OwnI w B v z) (hk : (limbs z.natAbs).length ≤ k) : RawI w v z k := by
  obtain ⟨A, n, c, e, h⟩ := h; exact ⟨_, A, n, c, _, e, h.reads, by rw [val_limbs, sgn_self], hk⟩
theorem RawI.mono {w : World} {v : Value} {z : Int} {k m : Nat} (h : RawI w v z k) (hm : k ≤ m) : RawI w v z m := by
  obtain ⟨n, A, m, c, l, e, h, e', hk⟩ := h; exact ⟨n, A, m, c, l, e, h, e', Nat.le_trans hk hm⟩

theorem results_int {fn : Func} {t : Tmp} {tmps : Array Value} {W : World} {b : Nat} {x y : Value} (h : fn.results = #[.cell t 35]) (hp : tmps[t]?.getD undef = .pointer (some ⟨b, 0, none⟩)) (hr : Row W b 35 [x, y]) :
    (results fn tmps).run Tryz.prog W = .ok (.agg #[x, y]) W := by
  have c0 := hr.cell (i := 0) rfl
  have c1 := hr.cell (i := 1) rfl
  simp [results, h, hp, go_sem, c0, c1]

theorem Row.two {W : World} {g : Nat} {t : TypeId} {a b : Value} (h : Row W g t [a, b]) (x y : Value) : Row ((W.setCell ⟨g, 0, none⟩ x).setCell ⟨g, 1, none⟩ y) g t [x, y] :=
  (h.set_ 0 x).set_ 1 y
theorem Later.two {a w : World} (h : Later a w) {g : Nat} (hg : a.heap.size ≤ g) (x y : Value) : Later a ((w.setCell ⟨g, 0, none⟩ x).setCell ⟨g, 1, none⟩ y) :=
  (h.setCell (p := ⟨g, 0, none⟩) hg x).setCell (p := ⟨g, 1, none⟩) hg y

theorem Own32.far {T : TypeId} {w : World} {B : Nat} {v : Value} {l : List Nat} (h : Own32 T w B v l) {p : Addr} (hp : p.block < B) (u : Value) : Own32 T (w.setCell p u) B v l := by
  refine ⟨h.1, World.ownsRow.kept h.2 (only_setCell (World.grownBy.refl w (some p.block)) (.inl rfl) u) ?_⟩
  cases hv : v.ownBlock with
  | none => exact .inl rfl
  | some k =>
    have := own_ge h k hv
    exact .inr fun e => by injection e with e; omega

theorem OwnI.two {w : World} {B : Nat} {v : Value} {z : Int} (h : OwnI w B v z) {g : Nat} (hg : g < B) (x y : Value) : OwnI ((w.setCell ⟨g, 0, none⟩ x).setCell ⟨g, 1, none⟩ y) B v z := by
  obtain ⟨A, n, c, e, h⟩ := h; exact ⟨A, n, c, e, (h.far (p := ⟨g, 0, none⟩) hg x).far (p := ⟨g, 1, none⟩) hg y⟩

set_option maxHeartbeats 1000000 in
theorem of_calls (w : World) (neg : Bool) (s : Value) (l : List Nat) (h : U32s w s l) (hl : l.length ≤ 2000000000) :
    Calls Tryz.prog 151 #[.bool neg, s] w (Ret w fun w' v => OwnI w' w.heap.size v (sgn neg (val l))) := by
  obtain ⟨x, hx⟩ : ∃ x, x = val l := ⟨_, rfl⟩
  rw [← hx]
  have H := hide h; have HX := hide hx
  clear h hx
  go_enter Tryz.func151, Tryz.ntmps151
  go_wp2_with fail
  refine (trim_calls _ _ l (H.out.later ((Later.refl w).alloc _)) hl).mono ?_
  rintro e w1 ⟨v1, rfl, o1, b1⟩
  rw [← HX.out] at o1
  obtain ⟨A1, c1, f1, hc1, -⟩ := o1.reads.form
  obtain ⟨n1, hn1⟩ : ∃ n, n = (limbs x).length := ⟨_, rfl⟩
  rw [← hn1] at f1
  subst f1
  have hrow := (Row.new w 35 [.bool false, .slice none 0 0]).later b1
  have c0 := hrow.cell (i := 0) (u := .bool false) rfl
  have c1' := hrow.cell (i := 1) (u := .slice none 0 0) rfl
  have f0 := hrow.frozen 0
  have f1 := hrow.frozen 1
  have HN := hide hn1
  have hL := ((Later.refl w).alloc (.cells #[.bool false, .slice none 0 0] 35)).trans b1
  have hpos : decide (0 < n1) = decide (0 < x) := by
    rw [hn1]; by_cases h0 : x = 0
    · subst h0; rw [limbs_zero]; rfl
    · have := length_limbs_pos.2 h0; simp; omega
  have HPOS := hide hpos
  clear hn1 hc1 hpos
  cases neg
  all_goals
    go_wp2_with fail
    refine bodyPost_ret (results_int rfl rfl (hrow.two _ _)) rfl ?_
    refine ⟨_, rfl, ⟨A1, n1, c1, ?_, ?_⟩, hL.two (Nat.le_refl _) _ _⟩
    · rw [neg_sgn]; first | rfl | (rw [← HPOS.out]; simp)
    · rw [natAbs_sgn]; exact ((o1.far (p := ⟨w.heap.size, 0, none⟩) (by simp) _).far (p := ⟨w.heap.size, 1, none⟩) (by simp) _).weaken (by simp)

set_option maxHeartbeats 1000000 in
theorem plain_calls (w : World) (v : Value) (z : Int) (k : Nat) (h : RawI w v z k) (hk : k ≤ 2000000000) :
    Calls Tryz.prog 149 #[v] w (Ret w fun w' v => OwnI w' w.heap.size v z) := by
  obtain ⟨neg, A, n, c, l, rfl, hu, hz, hl⟩ := h
  have HZ := hide hz; clear hz
  go_enter Tryz.func149, Tryz.ntmps149
  go_wp2_with fail
  have hb0 : Later w ((w.alloc (Obj.cells #[Value.bool neg, Value.slice A n c] 35)).alloc (Obj.cells #[Value.bool false, Value.slice none 0 0] 35)) := ((Later.refl w).alloc _).alloc _
  refine (of_calls _ neg _ l (hu.later hb0) (by omega)).mono ?_
  rintro e w1 ⟨v1, rfl, o1, b1⟩
  rw [← HZ.out] at o1
  have hrow := Row.new (w.alloc (Obj.cells #[Value.bool neg, Value.slice A n c] 35)) 35 [.bool false, .slice none 0 0]
  rw [World.size_alloc] at hrow
  have hrow := hrow.later b1
  have c0 := hrow.cell (i := 0) (u := .bool false) rfl
  have c1 := hrow.cell (i := 1) (u := .slice none 0 0) rfl
  have f0 := hrow.frozen 0
  have f1 := hrow.frozen 1
  have hL := hb0.trans b1
  clear hb0
  obtain ⟨A1, n1, c1', rfl, o2⟩ := o1
  have HO := hide o2; clear o2
  go_wp2_with fail
  refine bodyPost_ret (results_int rfl rfl (hrow.two _ _)) rfl ?_
  refine ⟨_, rfl, ?_, hL.two (by omega) _ _⟩
  exact (OwnI.two ⟨A1, n1, c1', rfl, HO.out⟩ (by simp) _ _).weaken (by simp; omega)
end Go.Proofs.YthncinngkfflgaaGreat


/- Whole numbers: Cmp. -/
set_option linter.unusedVariables false
set_option linter.unusedSimpArgs false
set_option maxRecDepth 100000
namespace Go.Proofs.YthncinngkfflgaaGreat
open Go.RowKit Go.Shelf

/-- how one whole number stands to another -/
def cmpZ (x y : Int) : Int := if x < y then -1 else if y < x then 1 else 0

theorem row_cells2 {w : World} {g : Nat} {t : TypeId} {a b : Value} (h : Row w g t [a, b]) : w.cell? ⟨g, 0, none⟩ = some a ∧ w.cell? ⟨g, 1, none⟩ = some b ∧ w.frozen? ⟨g, 0, none⟩ = false ∧ w.frozen? ⟨g, 1, none⟩ = false :=
  ⟨h.cell rfl, h.cell rfl, h.frozen 0, h.frozen 1⟩

theorem cmpZ_neg {x y : Int} (hx : x < 0) (hy : y < 0) : cmpN y.natAbs x.natAbs = cmpZ x y := by
  unfold cmpN cmpZ; (repeat' split) <;> omega
theorem cmpZ_pos {x y : Int} (hx : ¬ x < 0) (hy : ¬ y < 0) : cmpN x.natAbs y.natAbs = cmpZ x y := by
  unfold cmpN cmpZ; (repeat' split) <;> omega
theorem RawI.limbs_le {w : World} {v : Value} {z : Int} {k : Nat} (h : RawI w v z k) : (limbs z.natAbs).length ≤ k := by
  obtain ⟨n, A, m, c, l, e, h, e', hk⟩ := h
  rw [e', natAbs_sgn]; exact Nat.le_trans (length_limbs_val h.1) hk
theorem Own32.far2 {T : TypeId} {w : World} {B : Nat} {v : Value} {l : List Nat} (h : Own32 T w B v l) {g : Nat} (hg : g < B) (x y : Value) : Own32 T ((w.setCell ⟨g, 0, none⟩ x).setCell ⟨g, 1, none⟩ y) B v l :=
  (h.far (p := ⟨g, 0, none⟩) hg x).far (p := ⟨g, 1, none⟩) hg y
theorem Row.far2 {W : World} {h : Nat} {t : TypeId} {cs : List Value} (r : Row W h t cs) {g : Nat} (hg : h ≠ g) (x y : Value) : Row ((W.setCell ⟨g, 0, none⟩ x).setCell ⟨g, 1, none⟩ y) h t cs :=
  (r.far (p := ⟨g, 0, none⟩) hg x).far (p := ⟨g, 1, none⟩) hg y

set_option maxHeartbeats 1000000 in
theorem wcmp_calls (w : World) (va vb : Value) (x y : Int) (k m : Nat) (hx : RawI w va x k) (hy : RawI w vb y m) (hk : k ≤ 1000000000) (hm : m ≤ 1000000000) :
    Calls Tryz.prog 107 #[va, vb] w (RetV w (.int .i64 (cmpZ x y))) := by
  have HX := hide hx; have HY := hide hy
  obtain ⟨n1, A1, m1, c1, l1, rfl, hu1, hz1, hl1⟩ := hx
  obtain ⟨n2, A2, m2, c2, l2, rfl, hu2, hz2, hl2⟩ := hy
  clear hu1 hu2 hz1 hz2 hl1 hl2
  go_enter Tryz.func107, Tryz.ntmps107
  go_wp2_with fail
  have hb0 : Later w (((w.alloc (Obj.cells #[Value.bool n1, Value.slice A1 m1 c1] 35)).alloc (Obj.cells #[Value.bool n2, Value.slice A2 m2 c2] 35)).drew) := (((Later.refl w).alloc _).alloc _).drew
  have r1 := ((Row.new w 35 [.bool n1, .slice A1 m1 c1]).alloc (Obj.cells #[Value.bool n2, Value.slice A2 m2 c2] 35)).drew
  have r2 := (Row.new (w.alloc (Obj.cells #[Value.bool n1, Value.slice A1 m1 c1] 35)) 35 [.bool n2, .slice A2 m2 c2]).drew
  rw [World.size_alloc] at r2
  have R1 := hide r1; have R2 := hide r2; have B0 := hide hb0
  clear r1 r2 hb0
  rename_i K hK
  have key : ∀ (W : World) (P1 : Option Addr) (q1 d1 : Nat) (P2 : Option Addr) (q2 d2 : Nat), Row W w.heap.size 35 [.bool (decide (x < 0)), .slice P1 q1 d1] → Row W (w.heap.size + 1) 35 [.bool (decide (y < 0)), .slice P2 q2 d2] →
      U32s W (.slice P1 q1 d1) (limbs x.natAbs) → U32s W (.slice P2 q2 d2) (limbs y.natAbs) → Later w W →
      K { tmps := #[.agg #[.bool n1, .slice A1 m1 c1], .agg #[.bool n2, .slice A2 m2 c2], .pointer (some ⟨w.heap.size, 0, none⟩), .pointer (some ⟨w.heap.size + 1, 0, none⟩), .int .i64 0,
            .agg #[.bool n1, .slice A1 m1 c1], .agg #[.bool (decide (x < 0)), .slice P1 q1 d1], .agg #[.bool n2, .slice A2 m2 c2], .agg #[.bool (decide (y < 0)), .slice P2 q2 d2],
            undef, undef, undef, undef, undef, undef, undef, undef, undef, undef, undef, undef, undef, undef, undef, undef, undef, undef, undef, undef, undef, undef, undef, undef, undef, undef, undef, undef, undef], defers := [] } W := by
    intro W P1 q1 d1 P2 q2 d2 ra rb u1 u2 hL
    refine hK _ _ ?_
    have hlx := HX.out.limbs_le; have hly := HY.out.limbs_le
    have U1 := hide u1; have U2 := hide u2
    clear u1 u2 hK R1 R2 B0 HX HY
    by_cases hx : x < 0
    · rw [show decide (x < 0) = true by simpa using hx] at ra
      rw [show decide (x < 0) = true by simpa using hx]
      by_cases hy : y < 0
      · rw [show decide (y < 0) = true by simpa using hy] at rb
        rw [show decide (y < 0) = true by simpa using hy]
        obtain ⟨e1, e2, e3, e4⟩ := row_cells2 ra
        obtain ⟨e5, e6, e7, e8⟩ := row_cells2 rb
        have hv := hide (cmpZ_neg hx hy)
        clear ra rb
        go_wp2_with fail
        refine (cmp_calls _ _ _ _ _ U2.out U1.out (by omega) (by omega)).mono ?_
        rintro e w' ⟨rfl, hb⟩
        rw [val_limbs, val_limbs, hv.out]
        go_wp2_with fail
        go_ret
        exact ⟨rfl, hL.trans hb⟩
      · rw [show decide (y < 0) = false by simpa using hy] at rb
        rw [show decide (y < 0) = false by simpa using hy]
        obtain ⟨e1, e2, e3, e4⟩ := row_cells2 ra
        obtain ⟨e5, e6, e7, e8⟩ := row_cells2 rb
        have hv := hide (show cmpZ x y = -1 by unfold cmpZ; rw [if_pos (by omega)])
        clear ra rb
        go_wp2_with fail
        go_ret
        exact ⟨by rw [hv.out]; rfl, hL⟩
    · rw [show decide (x < 0) = false by simpa using hx] at ra
      rw [show decide (x < 0) = false by simpa using hx]
      by_cases hy : y < 0
      · rw [show decide (y < 0) = true by simpa using hy] at rb
        rw [show decide (y < 0) = true by simpa using hy]
        obtain ⟨e1, e2, e3, e4⟩ := row_cells2 ra
        obtain ⟨e5, e6, e7, e8⟩ := row_cells2 rb
        have hv := hide (show cmpZ x y = 1 by unfold cmpZ; rw [if_neg (by omega), if_pos (by omega)])
        clear ra rb
        go_wp2_with fail
        go_ret
        exact ⟨by rw [hv.out]; rfl, hL⟩
      · rw [show decide (y < 0) = false by simpa using hy] at rb
        rw [show decide (y < 0) = false by simpa using hy]
        obtain ⟨e1, e2, e3, e4⟩ := row_cells2 ra
        obtain ⟨e5, e6, e7, e8⟩ := row_cells2 rb
        have hv := hide (cmpZ_pos hx hy)
        clear ra rb
        go_wp2_with fail
        refine (cmp_calls _ _ _ _ _ U1.out U2.out (by omega) (by omega)).mono ?_
        rintro e w' ⟨rfl, hb⟩
        rw [val_limbs, val_limbs, hv.out]
        go_wp2_with fail
        go_ret
        exact ⟨rfl, hL.trans hb⟩
  go_region_with (first
    | ((with_reducible refine (plain_calls _ _ x k (HX.out.later B0.out) (by omega)).mono ?_); rintro e w1 ⟨v1, rfl, o1, b1⟩; obtain ⟨P1, q1, d1, rfl, o1⟩ := o1; have h1 := row_cells2 (R1.out.later b1); have h2 := row_cells2 (R2.out.later b1); obtain ⟨e1, e2, e3, e4⟩ := h1; obtain ⟨e5, e6, e7, e8⟩ := h2)
    | ((with_reducible refine (plain_calls _ _ y m (HY.out.later B0.out) (by omega)).mono ?_); rintro e w1 ⟨v1, rfl, o1, b1⟩; obtain ⟨P1, q1, d1, rfl, o1⟩ := o1; have h1 := row_cells2 (R1.out.later b1); have h2 := row_cells2 (R2.out.later b1); obtain ⟨e1, e2, e3, e4⟩ := h1; obtain ⟨e5, e6, e7, e8⟩ := h2)
    | ((with_reducible refine (plain_calls _ _ x k (HX.out.later (B0.out.trans b1)) (by omega)).mono ?_); rintro e w2 ⟨v2, rfl, o2, b2⟩; obtain ⟨P2, q2, d2, rfl, o2⟩ := o2; have h1 := row_cells2 (R1.out.later (b1.trans b2)); have h2 := row_cells2 (R2.out.later (b1.trans b2)); obtain ⟨g1, g2, g3, g4⟩ := h1; obtain ⟨g5, g6, g7, g8⟩ := h2)
    | ((with_reducible refine (plain_calls _ _ y m (HY.out.later (B0.out.trans b1)) (by omega)).mono ?_); rintro e w2 ⟨v2, rfl, o2, b2⟩; obtain ⟨P2, q2, d2, rfl, o2⟩ := o2; have h1 := row_cells2 (R1.out.later (b1.trans b2)); have h2 := row_cells2 (R2.out.later (b1.trans b2)); obtain ⟨g1, g2, g3, g4⟩ := h1; obtain ⟨g5, g6, g7, g8⟩ := h2))
  all_goals show K _ _
  all_goals
    have hL := (B0.out.trans b1).trans b2
    have ra := ((R1.out.later (b1.trans b2)))
    have rb := ((R2.out.later (b1.trans b2)))
    have hs := b1.size
    simp only [World.size_drew, World.size_alloc] at hs
    first
    | (refine key _ _ _ _ _ _ _ (Row.far2 (ra.two _ _) (by omega) _ _) (Row.two (Row.far2 rb (by omega) _ _) _ _) ?_ ?_ ((hL.two (by omega) _ _).two (by omega) _ _)
       · exact (((o1.later b2).far2 (by simp; try omega) _ _).far2 (by simp; try omega) _ _).reads
       · exact ((o2.far2 (by omega) _ _).far2 (by omega) _ _).reads)
    | (refine key _ _ _ _ _ _ _ (Row.far2 (ra.two _ _) (by omega) _ _) (Row.two (Row.far2 rb (by omega) _ _) _ _) ?_ ?_ ((hL.two (by omega) _ _).two (by omega) _ _)
       · exact ((o2.far2 (by omega) _ _).far2 (by omega) _ _).reads
       · exact (((o1.later b2).far2 (by simp; try omega) _ _).far2 (by simp; try omega) _ _).reads)
end Go.Proofs.YthncinngkfflgaaGreat


/- Whole numbers: not, Mul, Sub. -/
set_option linter.unusedVariables false
set_option linter.unusedSimpArgs false
set_option maxRecDepth 100000
namespace Go.Proofs.YthncinngkfflgaaGreat
open Go.RowKit Go.Shelf

theorem sgn_not (b : Bool) (n : Nat) : sgn (!b) n = - sgn b n := by cases b <;> simp [sgn]

set_option maxHeartbeats 1000000 in
theorem not_calls (w : World) (v : Value) (z : Int) (k : Nat) (h : RawI w v z k) (hk : k ≤ 2000000000) :
    Calls Tryz.prog 179 #[v] w (Ret w fun w' v => OwnI w' w.heap.size v (-z)) := by
  obtain ⟨neg, A, n, c, l, rfl, hu, hz, hl⟩ := h
  obtain ⟨y, hy⟩ : ∃ y, y = -z := ⟨_, rfl⟩
  rw [← hy]
  have hz' : sgn (!neg) (val l) = y := by rw [sgn_not, ← hz, hy]
  have HZ := hide hz'; clear hz hz' hy
  go_enter Tryz.func179, Tryz.ntmps179
  go_wp2_with fail
  have hb0 : Later w ((w.alloc (Obj.cells #[Value.bool neg, Value.slice A n c] 35)).alloc (Obj.cells #[Value.bool false, Value.slice none 0 0] 35)) := ((Later.refl w).alloc _).alloc _
  refine (of_calls _ (!neg) _ l (hu.later hb0) (by omega)).mono ?_
  rintro e w1 ⟨v1, rfl, o1, b1⟩
  rw [HZ.out] at o1
  have hrow := Row.new (w.alloc (Obj.cells #[Value.bool neg, Value.slice A n c] 35)) 35 [.bool false, .slice none 0 0]
  rw [World.size_alloc] at hrow
  have hrow := hrow.later b1
  obtain ⟨c0, c1, f0, f1⟩ := row_cells2 hrow
  have hL := hb0.trans b1
  clear hb0
  obtain ⟨A1, n1, c1', rfl, o2⟩ := o1
  have HO := hide o2; clear o2
  go_wp2_with fail
  refine bodyPost_ret (results_int rfl rfl (hrow.two _ _)) rfl ?_
  refine ⟨_, rfl, ?_, hL.two (by omega) _ _⟩
  refine OwnI.weaken (OwnI.two (g := w.heap.size + 1) ⟨A1, n1, c1', rfl, HO.out⟩ ?_ _ _) ?_ <;> simp <;> omega

theorem limbs_mul_len {a b : Nat} {k m : Nat} (ha : (limbs a).length ≤ k) (hb : (limbs b).length ≤ m) : (limbs (a * b)).length ≤ k + m := by
  refine length_limbs_le ?_
  rw [Nat.pow_add]
  have h1 := Nat.lt_of_lt_of_le (lt_of_length_limbs a) (Nat.pow_le_pow_right (by omega) ha)
  have h2 := Nat.lt_of_lt_of_le (lt_of_length_limbs b) (Nat.pow_le_pow_right (by omega) hb)
  exact Nat.mul_lt_mul'' h1 h2

theorem sgn_mul (a b : Bool) (m n : Nat) : sgn (!(a == b)) (m * n) = sgn a m * sgn b n := by
  cases a <;> cases b <;> simp [sgn, Int.neg_mul, Int.mul_neg]

set_option maxHeartbeats 1000000 in
theorem wmul_calls (w : World) (va vb : Value) (x y : Int) (k m : Nat) (hx : RawI w va x k) (hy : RawI w vb y m) (hk : k ≤ 500000000) (hm : m ≤ 500000000) :
    Calls Tryz.prog 108 #[va, vb] w (Ret w fun w' v => OwnI w' w.heap.size v (x * y)) := by
  obtain ⟨n1, A1, m1, c1, l1, rfl, hu1, hz1, hl1⟩ := hx
  obtain ⟨n2, A2, m2, c2, l2, rfl, hu2, hz2, hl2⟩ := hy
  have hz : sgn (!(n1 == n2)) (val l1 * val l2) = x * y := by rw [sgn_mul, ← hz1, ← hz2]
  have hln := limbs_mul_len (Nat.le_trans (length_limbs_val hu1.1) hl1) (Nat.le_trans (length_limbs_val hu2.1) hl2)
  have HZ := hide hz; have HU1 := hide hu1; have HU2 := hide hu2
  clear hz hz1 hz2 hu1 hu2
  go_enter Tryz.func108, Tryz.ntmps108
  go_wp2_with fail
  obtain ⟨W0, hW0⟩ : ∃ W0, W0 = (((w.alloc (Obj.cells #[Value.bool n1, Value.slice A1 m1 c1] 35)).alloc (Obj.cells #[Value.bool n2, Value.slice A2 m2 c2] 35)).alloc (Obj.cells #[Value.bool false, Value.slice none 0 0] 35)) := ⟨_, rfl⟩
  have hb0 : Later w W0.drew := by rw [hW0]; exact (((Later.refl w).alloc _).alloc _).alloc _ |>.drew
  have r1 : Row W0.drew w.heap.size 35 [.bool n1, .slice A1 m1 c1] := by rw [hW0]; exact (((Row.new w _ _).alloc _).alloc _).drew
  have r2 : Row W0.drew (w.heap.size + 1) 35 [.bool n2, .slice A2 m2 c2] := by
    rw [hW0]
    have := Row.new (w.alloc (Obj.cells #[Value.bool n1, Value.slice A1 m1 c1] 35)) 35 [.bool n2, .slice A2 m2 c2]
    rw [World.size_alloc] at this; exact (this.alloc _).drew
  have r3 : Row W0.drew (w.heap.size + 2) 35 [.bool false, .slice none 0 0] := by
    rw [hW0]
    have := Row.new ((w.alloc (Obj.cells #[Value.bool n1, Value.slice A1 m1 c1] 35)).alloc (Obj.cells #[Value.bool n2, Value.slice A2 m2 c2] 35)) 35 [.bool false, .slice none 0 0]
    rw [World.size_alloc, World.size_alloc] at this; exact this.drew
  have hsz : W0.drew.heap.size = w.heap.size + 3 := by rw [hW0]; simp
  rw [← hW0]
  clear hW0
  have R1 := hide r1; have R2 := hide r2; have R3 := hide r3; have B0 := hide hb0
  have hS : ∀ w', Later W0.drew w' → w'.cell? ⟨w.heap.size, 0, none⟩ = some (.bool n1) ∧ w'.cell? ⟨w.heap.size, 1, none⟩ = some (.slice A1 m1 c1) ∧ w'.cell? ⟨w.heap.size + 1, 0, none⟩ = some (.bool n2) ∧ w'.cell? ⟨w.heap.size + 1, 1, none⟩ = some (.slice A2 m2 c2) :=
    fun w' hb => ⟨(r1.later hb).cell rfl, (r1.later hb).cell rfl, (r2.later hb).cell rfl, (r2.later hb).cell rfl⟩
  have hT : ∀ w' u1 u2, Later W0.drew w' → ((w'.setCell ⟨w.heap.size + 2, 0, none⟩ u1).setCell ⟨w.heap.size + 2, 1, none⟩ u2).cell? ⟨w.heap.size, 0, none⟩ = some (.bool n1) ∧ ((w'.setCell ⟨w.heap.size + 2, 0, none⟩ u1).setCell ⟨w.heap.size + 2, 1, none⟩ u2).cell? ⟨w.heap.size, 1, none⟩ = some (.slice A1 m1 c1) ∧ ((w'.setCell ⟨w.heap.size + 2, 0, none⟩ u1).setCell ⟨w.heap.size + 2, 1, none⟩ u2).cell? ⟨w.heap.size + 1, 0, none⟩ = some (.bool n2) ∧ ((w'.setCell ⟨w.heap.size + 2, 0, none⟩ u1).setCell ⟨w.heap.size + 2, 1, none⟩ u2).cell? ⟨w.heap.size + 1, 1, none⟩ = some (.slice A2 m2 c2) :=
    fun w' u1 u2 hb => ⟨((r1.later hb).far2 (by omega) u1 u2).cell rfl, ((r1.later hb).far2 (by omega) u1 u2).cell rfl, ((r2.later hb).far2 (by omega) u1 u2).cell rfl, ((r2.later hb).far2 (by omega) u1 u2).cell rfl⟩
  have HS := hide hS; have HT := hide hT
  clear r1 r2 r3 hb0 hS hT
  rename_i K hK
  go_region_held3 (fun w' => w'.cell? ⟨w.heap.size, 0, none⟩ = some (.bool n1) ∧ w'.cell? ⟨w.heap.size, 1, none⟩ = some (.slice A1 m1 c1) ∧ w'.cell? ⟨w.heap.size + 1, 0, none⟩ = some (.bool n2) ∧ w'.cell? ⟨w.heap.size + 1, 1, none⟩ = some (.slice A2 m2 c2))
    (first | exact HS.out _ (Later.refl _) | exact HS.out _ b1 | exact HS.out _ (b1.trans b2) | exact HT.out _ _ _ (b1.trans b2))
    (first
      | ((with_reducible refine (mul_calls _ _ _ l1 l2 (HU1.out.later B0.out) (HU2.out.later B0.out) (by omega) (by omega)).mono ?_); rintro e w1 ⟨v1, rfl, o1, b1⟩; obtain ⟨P1, d1, rfl, -, -, -, -⟩ := o1.reads.form)
      | ((with_reducible refine (of_calls _ _ _ _ o1.reads (by omega)).mono ?_); rintro e w2 ⟨v2, rfl, o2, b2⟩; rw [val_limbs, HZ.out] at o2; obtain ⟨P2, q2, d2, rfl, o2⟩ := o2; obtain ⟨e1, e2, e3, e4⟩ := row_cells2 (R3.out.later (b1.trans b2))))
  show K _ _
  refine hK _ _ ?_
  have hs1 := b1.size
  have hbb := B0.out.trans (b1.trans b2)
  have hrow := R3.out.later (b1.trans b2)
  have HO := hide o2
  clear o1 o2 e1 e2 e3 e4 hK
  go_wp2_with fail
  refine bodyPost_ret (results_int rfl rfl (hrow.two _ _)) rfl ?_
  refine ⟨_, rfl, ?_, hbb.two (by omega) _ _⟩
  exact (OwnI.two (g := w.heap.size + 2) ⟨P2, q2, d2, rfl, HO.out⟩ (by omega) _ _).weaken (by omega)
end Go.Proofs.YthncinngkfflgaaGreat


/- Whole numbers: Add. -/
set_option linter.unusedVariables false
set_option linter.unusedSimpArgs false
set_option maxRecDepth 100000
namespace Go.Proofs.YthncinngkfflgaaGreat
open Go.RowKit Go.Shelf

theorem limbs_add_len {a b : Nat} {k m : Nat} (ha : (limbs a).length ≤ k) (hb : (limbs b).length ≤ m) : (limbs (a + b)).length ≤ k + m + 1 := by
  refine length_limbs_le ?_
  have h1 := Nat.lt_of_lt_of_le (lt_of_length_limbs a) (Nat.pow_le_pow_right (by omega) ha)
  have h2 := Nat.lt_of_lt_of_le (lt_of_length_limbs b) (Nat.pow_le_pow_right (by omega) hb)
  have h3 : (4294967296 : Nat) ^ k ≤ 4294967296 ^ (k + m) := Nat.pow_le_pow_right (by omega) (by omega)
  have h4 : (4294967296 : Nat) ^ m ≤ 4294967296 ^ (k + m) := Nat.pow_le_pow_right (by omega) (by omega)
  rw [Nat.pow_succ]
  omega

theorem add_same {x y : Int} (h : decide (x < 0) = decide (y < 0)) : sgn (decide (x < 0)) (x.natAbs + y.natAbs) = x + y := by
  by_cases hx : x < 0 <;> by_cases hy : y < 0 <;> simp [hx, hy, sgn] at h ⊢ <;> omega
theorem add_big {x y : Int} (h : decide (x < 0) ≠ decide (y < 0)) (hle : y.natAbs ≤ x.natAbs) : sgn (decide (x < 0)) (x.natAbs - y.natAbs) = x + y := by
  by_cases hx : x < 0 <;> by_cases hy : y < 0 <;> simp [hx, hy, sgn] at h ⊢ <;> omega

set_option maxHeartbeats 2000000 in
theorem wadd_calls (w : World) (va vb : Value) (x y : Int) (k m : Nat) (hx : RawI w va x k) (hy : RawI w vb y m) (hk : k ≤ 500000000) (hm : m ≤ 500000000) :
    Calls Tryz.prog 133 #[va, vb] w (Ret w fun w' v => OwnI w' w.heap.size v (x + y)) := by
  obtain ⟨z, hz⟩ : ∃ z, z = x + y := ⟨_, rfl⟩
  rw [← hz]
  have hlx := hx.limbs_le
  have hly := hy.limbs_le
  have HX := hide hx; have HY := hide hy; have HZ := hide hz
  obtain ⟨n1, A1, m1, c1, l1, rfl, hu1, hz1, hl1⟩ := hx
  obtain ⟨n2, A2, m2, c2, l2, rfl, hu2, hz2, hl2⟩ := hy
  clear hu1 hu2 hz1 hz2 hl1 hl2 hz
  go_enter Tryz.func133, Tryz.ntmps133
  go_wp2_with fail
  obtain ⟨W0, hW0⟩ : ∃ W0, W0 = (((w.alloc (Obj.cells #[Value.bool n1, Value.slice A1 m1 c1] 35)).alloc (Obj.cells #[Value.bool n2, Value.slice A2 m2 c2] 35)).alloc (Obj.cells #[Value.bool false, Value.slice none 0 0] 35)) := ⟨_, rfl⟩
  have hb0 : Later w W0.drew := by rw [hW0]; exact (((Later.refl w).alloc _).alloc _).alloc _ |>.drew
  have r1 : Row W0.drew w.heap.size 35 [.bool n1, .slice A1 m1 c1] := by rw [hW0]; exact (((Row.new w _ _).alloc _).alloc _).drew
  have r2 : Row W0.drew (w.heap.size + 1) 35 [.bool n2, .slice A2 m2 c2] := by
    rw [hW0]
    have := Row.new (w.alloc (Obj.cells #[Value.bool n1, Value.slice A1 m1 c1] 35)) 35 [.bool n2, .slice A2 m2 c2]
    rw [World.size_alloc] at this; exact (this.alloc _).drew
  have r3 : Row W0.drew (w.heap.size + 2) 35 [.bool false, .slice none 0 0] := by
    rw [hW0]
    have := Row.new ((w.alloc (Obj.cells #[Value.bool n1, Value.slice A1 m1 c1] 35)).alloc (Obj.cells #[Value.bool n2, Value.slice A2 m2 c2] 35)) 35 [.bool false, .slice none 0 0]
    rw [World.size_alloc, World.size_alloc] at this; exact this.drew
  have hsz : W0.drew.heap.size = w.heap.size + 3 := by rw [hW0]; simp
  obtain ⟨d1, d2, d3, d4⟩ := row_cells2 r1
  obtain ⟨d5, d6, d7, d8⟩ := row_cells2 r2
  rw [← hW0]
  clear hW0
  have R1 := hide r1; have R2 := hide r2; have R3 := hide r3; have B0 := hide hb0
  clear r1 r2 r3 hb0
  rename_i K hK
  have key : ∀ (W : World) (P1 : Option Addr) (q1 d1 : Nat) (P2 : Option Addr) (q2 d2 : Nat), Row W w.heap.size 35 [.bool (decide (x < 0)), .slice P1 q1 d1] → Row W (w.heap.size + 1) 35 [.bool (decide (y < 0)), .slice P2 q2 d2] →
      Row W (w.heap.size + 2) 35 [.bool false, .slice none 0 0] → U32s W (.slice P1 q1 d1) (limbs x.natAbs) → U32s W (.slice P2 q2 d2) (limbs y.natAbs) → Later w W → w.heap.size + 3 ≤ W.heap.size →
      K { tmps := #[.agg #[.bool n1, .slice A1 m1 c1], .agg #[.bool n2, .slice A2 m2 c2], .pointer (some ⟨w.heap.size, 0, none⟩), .pointer (some ⟨w.heap.size + 1, 0, none⟩), .pointer (some ⟨w.heap.size + 2, 0, none⟩), undef, undef, undef, undef,
            .agg #[.bool n1, .slice A1 m1 c1], .agg #[.bool (decide (x < 0)), .slice P1 q1 d1], .agg #[.bool n2, .slice A2 m2 c2], .agg #[.bool (decide (y < 0)), .slice P2 q2 d2],
            undef, undef, undef, undef, undef, undef, undef, undef, undef, undef, undef, undef, undef, undef, undef, undef, undef, undef, undef, undef, undef, undef, undef, undef, undef, undef,
            undef, undef, undef, undef, undef, undef, undef, undef, undef, undef, undef, undef], defers := [] } W := by
    intro W P1 q1 d1' P2 q2 d2' ra rb rc u1 u2 hL hsW
    refine hK _ _ ?_
    clear hK R1 R2 R3 B0 HX HY d1 d2 d3 d4 d5 d6 d7 d8 hsz W0
    obtain ⟨s, hs⟩ : ∃ s, s = decide (x < 0) := ⟨_, rfl⟩
    obtain ⟨t, ht⟩ : ∃ t, t = decide (y < 0) := ⟨_, rfl⟩
    rw [← hs] at ra ⊢; rw [← ht] at rb ⊢
    obtain ⟨e1, e2, e3, e4⟩ := row_cells2 ra
    obtain ⟨e5, e6, e7, e8⟩ := row_cells2 rb
    obtain ⟨e9, e10, e11, e12⟩ := row_cells2 rc
    by_cases hst : s = t
    · subst hst
      have hv := add_same (hs.symm.trans ht)
      rw [← hs, ← HZ.out] at hv
      have HV := hide hv
      have hln := limbs_add_len hlx hly
      have hq : (s == s) = true := by simp
      have U1 := hide (u1.later (Later.refl W).drew); have U2 := hide (u2.later (Later.refl W).drew)
      have R1 := hide ra.drew; have R2 := hide rb.drew; have R3 := hide rc.drew
      have hS : ∀ w', Later W.drew w' → w'.cell? ⟨w.heap.size, 0, none⟩ = some (.bool s) ∧ w'.cell? ⟨w.heap.size, 1, none⟩ = some (.slice P1 q1 d1') ∧ w'.cell? ⟨w.heap.size + 1, 0, none⟩ = some (.bool s) ∧ w'.cell? ⟨w.heap.size + 1, 1, none⟩ = some (.slice P2 q2 d2') :=
        fun w' hb => ⟨(ra.drew.later hb).cell rfl, (ra.drew.later hb).cell rfl, (rb.drew.later hb).cell rfl, (rb.drew.later hb).cell rfl⟩
      have hT : ∀ w' u1 u2, Later W.drew w' → ((w'.setCell ⟨w.heap.size + 2, 0, none⟩ u1).setCell ⟨w.heap.size + 2, 1, none⟩ u2).cell? ⟨w.heap.size, 0, none⟩ = some (.bool s) ∧ ((w'.setCell ⟨w.heap.size + 2, 0, none⟩ u1).setCell ⟨w.heap.size + 2, 1, none⟩ u2).cell? ⟨w.heap.size, 1, none⟩ = some (.slice P1 q1 d1') ∧ ((w'.setCell ⟨w.heap.size + 2, 0, none⟩ u1).setCell ⟨w.heap.size + 2, 1, none⟩ u2).cell? ⟨w.heap.size + 1, 0, none⟩ = some (.bool s) ∧ ((w'.setCell ⟨w.heap.size + 2, 0, none⟩ u1).setCell ⟨w.heap.size + 2, 1, none⟩ u2).cell? ⟨w.heap.size + 1, 1, none⟩ = some (.slice P2 q2 d2') :=
        fun w' u1 u2 hb => ⟨((ra.drew.later hb).far2 (by omega) u1 u2).cell rfl, ((ra.drew.later hb).far2 (by omega) u1 u2).cell rfl, ((rb.drew.later hb).far2 (by omega) u1 u2).cell rfl, ((rb.drew.later hb).far2 (by omega) u1 u2).cell rfl⟩
      have HS := hide hS; have HT := hide hT
      have HSW := hide hsW
      clear ra rb rc u1 u2 hS hT hv hs ht
      go_wp2_with fail
      rename_i K2 hK2
      go_region_held3 (fun w' => w'.cell? ⟨w.heap.size, 0, none⟩ = some (.bool s) ∧ w'.cell? ⟨w.heap.size, 1, none⟩ = some (.slice P1 q1 d1') ∧ w'.cell? ⟨w.heap.size + 1, 0, none⟩ = some (.bool s) ∧ w'.cell? ⟨w.heap.size + 1, 1, none⟩ = some (.slice P2 q2 d2'))
        (first | exact HS.out _ (Later.refl _) | exact HS.out _ b1 | exact HS.out _ (b1.trans b2) | exact HT.out _ _ _ (b1.trans b2))
        (first
          | ((with_reducible refine (add_calls _ _ _ _ _ U1.out U2.out (by omega) (by omega)).mono ?_); rintro e w1 ⟨v1, rfl, o1, b1⟩; rw [val_limbs, val_limbs] at o1; obtain ⟨Q1, f1, rfl, -, -, -, -⟩ := o1.reads.form)
          | ((with_reducible refine (of_calls _ _ _ _ o1.reads (by omega)).mono ?_); rintro e w2 ⟨v2, rfl, o2, b2⟩; rw [val_limbs, HV.out] at o2; obtain ⟨Q2, q3, f2, rfl, o2⟩ := o2; obtain ⟨g1, g2, g3, g4⟩ := row_cells2 (R3.out.later (b1.trans b2))))
      show K2 _ _
      refine hK2 _ _ ?_
      have hbb := (Later.refl W).drew.trans (b1.trans b2)
      have hrow := R3.out.later (b1.trans b2)
      have hs1 : w.heap.size + 3 ≤ w1.heap.size := Nat.le_trans hsW b1.size
      have HO := hide o2
      clear o1 o2 g1 g2 g3 g4 hK2
      go_wp2_with fail
      refine bodyPost_ret (results_int rfl rfl (hrow.two _ _)) rfl ?_
      refine ⟨_, rfl, ?_, (hL.trans hbb).two (by omega) _ _⟩
      exact (OwnI.two (g := w.heap.size + 2) ⟨Q2, q3, f2, rfl, HO.out⟩ (by omega) _ _).weaken (by omega)
    · have hq : (s == t) = false := by simpa using hst
      have U1 := hide u1; have U2 := hide u2
      have R1 := hide ra; have R2 := hide rb; have R3 := hide rc
      by_cases hle : y.natAbs ≤ x.natAbs
      · have hv := add_big (x := x) (y := y) (by rw [← hs, ← ht]; exact hst) hle
        rw [← hs, ← HZ.out] at hv
        have HV := hide hv
        have hln : (limbs (x.natAbs - y.natAbs)).length ≤ k := Nat.le_trans (length_limbs_mono (by omega)) hlx
        clear ra rb rc u1 u2 hv hs ht
        go_wp2_with fail
        refine (sub_calls _ _ _ _ _ U1.out U2.out (by omega) (by omega) (by rw [val_limbs, val_limbs]; exact hle)).mono ?_
        rintro e w1 ⟨v1, ok, rfl, ⟨rfl, o1⟩, b1⟩
        rw [val_limbs, val_limbs] at o1
        obtain ⟨g1, g2, g3, g4⟩ := row_cells2 (R1.out.later b1)
        obtain ⟨g5, g6, g7, g8⟩ := row_cells2 (R2.out.later b1)
        go_wp2_with fail
        refine (of_calls _ _ _ _ o1.reads (by omega)).mono ?_
        rintro e w2 ⟨v2, rfl, o2, b2⟩
        rw [val_limbs, HV.out] at o2
        obtain ⟨Q2, q3, f2, rfl, o2⟩ := o2
        have hbb := b1.trans b2
        have hrow := R3.out.later (b1.trans b2)
        obtain ⟨h1, h2, h3, h4⟩ := row_cells2 hrow
        have hs1 : w.heap.size + 3 ≤ w1.heap.size := Nat.le_trans hsW b1.size
        have HO := hide o2
        clear o1 o2
        go_wp2_with fail
        refine bodyPost_ret (results_int rfl rfl (hrow.two _ _)) rfl ?_
        refine ⟨_, rfl, ?_, (hL.trans hbb).two (by omega) _ _⟩
        exact (OwnI.two (g := w.heap.size + 2) ⟨Q2, q3, f2, rfl, HO.out⟩ (by omega) _ _).weaken (by omega)
      · have hv := add_big (x := y) (y := x) (by rw [← hs, ← ht]; exact fun e => hst e.symm) (by omega)
        rw [← ht, Int.add_comm, ← HZ.out] at hv
        have HV := hide hv
        have hln : (limbs (y.natAbs - x.natAbs)).length ≤ m := Nat.le_trans (length_limbs_mono (by omega)) hly
        clear ra rb rc u1 u2 hv hs ht
        go_wp2_with fail
        refine (sub_less _ _ _ _ _ U1.out U2.out (by omega) (by omega) (by rw [val_limbs, val_limbs]; omega)).mono ?_
        rintro e w0 ⟨v0, ok, rfl, ⟨rfl, rfl⟩, b0⟩
        obtain ⟨i1, i2, i3, i4⟩ := row_cells2 (R1.out.later b0)
        obtain ⟨i5, i6, i7, i8⟩ := row_cells2 (R2.out.later b0)
        go_wp2_with fail
        refine (sub_calls _ _ _ _ _ (U2.out.later b0) (U1.out.later b0) (by omega) (by omega) (by rw [val_limbs, val_limbs]; omega)).mono ?_
        rintro e w1 ⟨v1, ok, rfl, ⟨rfl, o1⟩, b1'⟩
        have b1 := b0.trans b1'
        rw [val_limbs, val_limbs] at o1
        obtain ⟨g1, g2, g3, g4⟩ := row_cells2 (R1.out.later b1)
        obtain ⟨g5, g6, g7, g8⟩ := row_cells2 (R2.out.later b1)
        go_wp2_with fail
        refine (of_calls _ _ _ _ o1.reads (by omega)).mono ?_
        rintro e w2 ⟨v2, rfl, o2, b2⟩
        rw [val_limbs, HV.out] at o2
        obtain ⟨Q2, q3, f2, rfl, o2⟩ := o2
        have hbb := b1.trans b2
        have hrow := R3.out.later (b1.trans b2)
        obtain ⟨h1, h2, h3, h4⟩ := row_cells2 hrow
        have hs1 : w.heap.size + 3 ≤ w1.heap.size := Nat.le_trans hsW b1.size
        have HO := hide o2
        clear o1 o2
        go_wp2_with fail
        refine bodyPost_ret (results_int rfl rfl (hrow.two _ _)) rfl ?_
        refine ⟨_, rfl, ?_, (hL.trans hbb).two (by omega) _ _⟩
        exact (OwnI.two (g := w.heap.size + 2) ⟨Q2, q3, f2, rfl, HO.out⟩ (by omega) _ _).weaken (by omega)
  go_region_with (first
    | ((with_reducible refine (plain_calls _ _ x k (HX.out.later B0.out) (by omega)).mono ?_); rintro e w1 ⟨v1, rfl, o1, b1⟩; obtain ⟨P1, q1, d1, rfl, o1⟩ := o1; have h1 := row_cells2 (R1.out.later b1); have h2 := row_cells2 (R2.out.later b1); obtain ⟨e1, e2, e3, e4⟩ := h1; obtain ⟨e5, e6, e7, e8⟩ := h2)
    | ((with_reducible refine (plain_calls _ _ y m (HY.out.later B0.out) (by omega)).mono ?_); rintro e w1 ⟨v1, rfl, o1, b1⟩; obtain ⟨P1, q1, d1, rfl, o1⟩ := o1; have h1 := row_cells2 (R1.out.later b1); have h2 := row_cells2 (R2.out.later b1); obtain ⟨e1, e2, e3, e4⟩ := h1; obtain ⟨e5, e6, e7, e8⟩ := h2)
    | ((with_reducible refine (plain_calls _ _ x k (HX.out.later (B0.out.trans b1)) (by omega)).mono ?_); rintro e w2 ⟨v2, rfl, o2, b2⟩; obtain ⟨P2, q2, d2, rfl, o2⟩ := o2; have h1 := row_cells2 (R1.out.later (b1.trans b2)); have h2 := row_cells2 (R2.out.later (b1.trans b2)); obtain ⟨g1, g2, g3, g4⟩ := h1; obtain ⟨g5, g6, g7, g8⟩ := h2)
    | ((with_reducible refine (plain_calls _ _ y m (HY.out.later (B0.out.trans b1)) (by omega)).mono ?_); rintro e w2 ⟨v2, rfl, o2, b2⟩; obtain ⟨P2, q2, d2, rfl, o2⟩ := o2; have h1 := row_cells2 (R1.out.later (b1.trans b2)); have h2 := row_cells2 (R2.out.later (b1.trans b2)); obtain ⟨g1, g2, g3, g4⟩ := h1; obtain ⟨g5, g6, g7, g8⟩ := h2))
  all_goals show K _ _
  all_goals
    have hL := (B0.out.trans b1).trans b2
    have ra := ((R1.out.later (b1.trans b2)))
    have rb := ((R2.out.later (b1.trans b2)))
    have rc := ((R3.out.later (b1.trans b2)))
    have hs := b1.size
    have hs2 := b2.size
    have hsz2 := hsz
    simp only [World.size_drew, World.size_alloc] at hs hsz2
    first
    | (refine key _ _ _ _ _ _ _ (Row.far2 (ra.two _ _) (by omega) _ _) (Row.two (Row.far2 rb (by omega) _ _) _ _) (Row.far2 (Row.far2 rc (by omega) _ _) (by omega) _ _) ?_ ?_ ((hL.two (by omega) _ _).two (by omega) _ _) ?_
       · exact (((o1.later b2).far2 (by omega) _ _).far2 (by omega) _ _).reads
       · exact ((o2.far2 (by omega) _ _).far2 (by omega) _ _).reads
       · simp only [World.size_setCell]; omega)
    | (refine key _ _ _ _ _ _ _ (Row.far2 (ra.two _ _) (by omega) _ _) (Row.two (Row.far2 rb (by omega) _ _) _ _) (Row.far2 (Row.far2 rc (by omega) _ _) (by omega) _ _) ?_ ?_ ((hL.two (by omega) _ _).two (by omega) _ _) ?_
       · exact ((o2.far2 (by omega) _ _).far2 (by omega) _ _).reads
       · exact (((o1.later b2).far2 (by omega) _ _).far2 (by omega) _ _).reads
       · simp only [World.size_setCell]; omega)
end Go.Proofs.YthncinngkfflgaaGreat
