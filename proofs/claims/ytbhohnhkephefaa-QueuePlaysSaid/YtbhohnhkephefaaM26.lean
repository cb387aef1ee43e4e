import Derived.Test.YtbhohnhkephefaaM25

/- Queues: the reference's Least and Take. -/
set_option linter.unusedVariables false
set_option linter.unusedSimpArgs false
set_option maxRecDepth 100000
namespace Go.Proofs.Ytbhohnhkephefaa
open Go.RowKit Go.Shelf
attribute [local go_sem ↓] Go.wp_at_zero Go.wp_at_succ

theorem upto_first {L : List Ent} {z : Int} (h : UpTo L L.length z) : (L = [] ∧ z = -1) ∨ ∃ (i : Nat) (e : Ent), z = i ∧ FirstAt L i e := by
  rcases h with ⟨h, rfl⟩ | ⟨b, e, rfl, hb, hbe, hm⟩
  · exact .inl ⟨List.eq_nil_of_length_eq_zero h, rfl⟩
  · exact .inr ⟨b, e, rfl, hbe, fun j o hj => hm j o (List.getElem?_eq_some_iff.1 hj).1 hj⟩
set_option maxHeartbeats 4000000 in
theorem rleast_calls (w : World) (R : Nat → Prop) (gr : Nat) (L : List Ent) (hQ : RQs w R gr L) (hl : L.length ≤ 1000) :
    Calls Try.prog 19 #[.pointer (some ⟨gr, 0, none⟩)] w (LeastPost w L) := by
  obtain ⟨vk, vi, hQ⟩ := hQ
  obtain ⟨A, n, c, rfl, hn⟩ := own_form hQ.ks
  have hn2 : n ≤ 1000 := by omega
  have hgl : gr < w.heap.size := hQ.row.lt
  obtain ⟨W0, hW0⟩ : ∃ W0, W0 = w.alloc (Obj.cells #[Value.bool false, Value.slice none 0 0, Value.bool false, Value.slice none 0 0] 35) := ⟨_, rfl⟩
  obtain ⟨hb0, r1, hsz⟩ := boxes1 w [.bool false, .slice none 0 0, .bool false, .slice none 0 0] 35 hW0
  have HR1 := hide r1; have B0 := hide hb0; have HW0 := hide hW0
  have HQ := hide hQ; have HN := hide hn
  clear r1 hb0 hW0 hQ hn
  go_enter Try.func19, Try.ntmps19
  go_wp2_with fail
  rw [← HW0.out]
  ((with_reducible refine (rfirst_calls W0 R gr _ _ L (HQ.out.later B0.out) hl).mono ?_); rintro e' w1 ⟨z, rfl, hz, b1⟩)
  have HB1 := hide b1
  have hz2 := upto_first hz
  clear hz
  rcases hz2 with ⟨hL0, rfl⟩ | ⟨i, e, rfl, hi⟩
  · have HL0 := hide hL0
    clear hL0 b1
    go_wp2_with fail
    ((with_reducible refine (qzero_calls _).mono ?_); rintro e' w5 ⟨v5, rfl, o5, b5⟩)
    obtain ⟨s5, A5, n5, c5, A5', n5', c5', rfl, -⟩ := o5.open_
    have HO5 := hide o5; have HB5 := hide b5
    have hr5 := HR1.out.later (HB1.out.trans HB5.out)
    obtain ⟨d1, d2, d3, d4, d5, d6, d7, d8⟩ := row_cells4 hr5
    have HR5 := hide hr5
    have hs1 := HB1.out.size
    clear o5 b5 hr5
    go_wp2_with fail
    refine bodyPost_ret (results_rat_bool rfl rfl rfl (HR5.out.four _ _ _ _)) rfl ?_
    have oo := Only.four w.heap.size w5 (.bool s5) (.slice A5 n5 c5) (.bool false) (.slice A5' n5' c5')
    have hB5 : w.heap.size < w1.heap.size := by rw [hsz] at hs1; omega
    exact ⟨((B0.out.trans HB1.out).trans HB5.out).only oo (Nat.le_refl _), .inl ⟨HL0.out, _, rfl, (HO5.out.only oo hB5).weaken (by omega)⟩⟩
  · have HI := hide hi
    have hil := (List.getElem?_eq_some_iff.1 hi.1).1
    obtain ⟨g, cap, n', hv, hn', -, -, -⟩ := own_read HQ.out.ks (by omega)
    injection hv with v1 v2 v3
    subst v1 v2 v3
    obtain ⟨d0, d1, d2, d3⟩ := ((HQ.out.later B0.out).later b1).kcell hi.1
    have hq0 := ((HQ.out.later B0.out).later b1).row.cell (i := 0) rfl
    have hr1 := HR1.out.later b1
    obtain ⟨z0, z1, z2, z3, y0, y1, y2, y3⟩ := row_cells4 hr1
    have HR5 := hide hr1
    have hi0 : (0 : Int) ≤ (i : Int) := by omega
    have hi1 : (i : Int) < (n : Int) := by omega
    have hgl1 : g < w1.heap.size := World.block_lt_of_cell? _ _ d0
    clear hi hil hn' b1 hr1
    go_wp2_with fail
    refine bodyPost_ret (results_rat_bool rfl rfl rfl (HR5.out.four _ _ _ _)) rfl ?_
    have oo := Only.four w.heap.size w1 (.bool e.s) (.slice e.A e.n e.c) (.bool false) (.slice e.A' e.n' e.c')
    exact ⟨(B0.out.trans HB1.out).only oo (Nat.le_refl _), .inr ⟨i, e, HI.out, rfl⟩⟩

/-- there is none; or the first one is taken -/
def RTakePost (w : World) (R : Nat → Prop) (gr : Nat) (L : List Ent) (e' : Ending) (w' : World) : Prop :=
  (L = [] ∧ ∃ v, e' = .returned (.tuple #[.int .i64 0, v, .bool false]) ∧ OwnR w' w.heap.size v 0 ∧ Later w w') ∨
  ∃ i e R', FirstAt L i e ∧ e' = .returned (.tuple #[.int .i64 e.id, .agg #[.bool e.s, .slice e.A e.n e.c, .bool false, .slice e.A' e.n' e.c'], .bool true]) ∧ RStep w R w' R' ∧ RQs w' R' gr (L.eraseIdx i) ∧ On w' (fun b => R b ∧ b < w.heap.size) (fun W => e.ok W) ∧ Sized e.key 100
theorem rtaken {w W0 w1 w5 w9 w18 : World} {R : Nat → Prop} {gr i : Nat} {L : List Ent} {e : Ent} {vk vi vk' vi' : Value} (hi : FirstAt L i e) (hQ : RQ w (fun b => R b ∧ b < w.heap.size) gr vk vi L L) (b0 : Later w W0) (b1 : Later W0 w1) (b5 : Later w1 w5)
    (t18 : Tch (fun b => b = gr) w5 w18) (t9 : Tch (fun b => R b ∧ b < w.heap.size) w5 w9) (h18 : RQ w18 (fun b => ((R b ∧ b < w.heap.size) ∨ w5.heap.size ≤ b) ∨ w9.heap.size ≤ b) gr vk' vi' (L.eraseIdx i) (L.eraseIdx i)) (t189 : Tch (fun b => (R b ∧ b < w.heap.size) ∨ w5.heap.size ≤ b) w9 w18) (hsz : W0.heap.size = w.heap.size + 1) (x y z u : Value) :
    RTakePost w R gr L (.returned (.tuple #[.int .i64 e.id, .agg #[.bool e.s, .slice e.A e.n e.c, .bool false, .slice e.A' e.n' e.c'], .bool true])) ((((w18.drew.setCell ⟨w.heap.size, 0, none⟩ x).setCell ⟨w.heap.size, 1, none⟩ y).setCell ⟨w.heap.size, 2, none⟩ z).setCell ⟨w.heap.size, 3, none⟩ u) := by
  have hO : Tch (fun b => b = w.heap.size) w18.drew ((((w18.drew.setCell ⟨w.heap.size, 0, none⟩ x).setCell ⟨w.heap.size, 1, none⟩ y).setCell ⟨w.heap.size, 2, none⟩ z).setCell ⟨w.heap.size, 3, none⟩ u) := (Only.four w.heap.size w18.drew x y z u).tch rfl
  have s1 := b1.size; have s5 := b5.size; have s9 := t9.size; have s18 := t189.size
  have hl5 := (b0.trans b1).trans b5
  have hT : Tch R w ((((w18.drew.setCell ⟨w.heap.size, 0, none⟩ x).setCell ⟨w.heap.size, 1, none⟩ y).setCell ⟨w.heap.size, 2, none⟩ z).setCell ⟨w.heap.size, 3, none⟩ u) := (((hl5.tch.step t9 (fun b hb => .inl hb.1)).step t189 (fun b hb => hb.elim (fun h => .inl h.1) (fun h => .inr (by omega)))).drew).step hO (fun b hb => .inr (by omega))
  have hin : e ∈ L := List.mem_of_getElem? hi.1
  refine .inr ⟨i, e, _, hi, rfl, ⟨fun b hb => ?_, hT⟩, ⟨vk', vi', (h18.later (Later.refl w18).drew).tch hO (fun x _ hx e => ?_)⟩, ?_, hQ.keys.sized e hin⟩
  · rcases hb.1 with (h | h) | h
    · exact .inl h.1
    · exact .inr (by omega)
    · exact .inr (by omega)
  · rcases hx with (h | h) | h
    · have := h.2; omega
    · omega
    · omega
  · have h1 : On w (fun b => (R b ∧ b < w.heap.size) ∧ b ≠ gr) (fun W => e.ok W) := (hQ.keys.ok.map fun W k => k e hin).mono (fun b hb _ => ⟨hb.1, hb.2.1⟩)
    exact ((((h1.later hl5).tch t18 (fun x hx e => hx.2 e)).tch (Tch.refl (fun b => b = w.heap.size) w18).drew (fun x hx e => by have := hx.1.2; omega)).tch hO (fun x hx e => by have := hx.1.2; omega)).mono (fun b hb _ => hb.1)
set_option maxHeartbeats 4000000 in
theorem rtake_calls (w : World) (R : Nat → Prop) (gr : Nat) (L : List Ent) (hQ : RQs w R gr L) (hl : L.length ≤ 1000) :
    Calls Try.prog 14 #[.pointer (some ⟨gr, 0, none⟩)] w (RTakePost w R gr L) := by
  obtain ⟨vk, vi, hQ⟩ := hQ
  obtain ⟨A, n, c, rfl, hn⟩ := own_form hQ.ks
  obtain ⟨B, m, d, rfl, hm⟩ := own_form hQ.js
  have hn2 : n ≤ 1000 := by omega
  have hmn : m = n := by omega
  subst hmn
  have hgl : gr < w.heap.size := hQ.row.lt
  obtain ⟨W0, hW0⟩ : ∃ W0, W0 = w.alloc (Obj.cells #[Value.bool false, Value.slice none 0 0, Value.bool false, Value.slice none 0 0] 35) := ⟨_, rfl⟩
  obtain ⟨hb0, r1, hsz⟩ := boxes1 w [.bool false, .slice none 0 0, .bool false, .slice none 0 0] 35 hW0
  have HR1 := hide r1; have B0 := hide hb0; have HW0 := hide hW0
  have HQ : Hid (RQ w (fun b => R b ∧ b < w.heap.size) gr (.slice A m c) (.slice B m d) L L) := hide (hQ.tch (T := fun _ => False) (Tch.refl _ w) (fun _ _ _ h => h))
  have HN := hide hn
  have hmx : Try.prog.follows .mixedOrders = true := by kernel_rfl
  clear r1 hb0 hW0 hQ hn hm
  go_enter Try.func14, Try.ntmps14
  go_wp2_with fail
  rw [← HW0.out]
  ((with_reducible refine (rfirst_calls W0 _ gr _ _ L (HQ.out.later B0.out) hl).mono ?_); rintro e' w1 ⟨z, rfl, hz, b1⟩)
  have HB1 := hide b1
  have hz2 := upto_first hz
  clear hz
  rcases hz2 with ⟨hL0, rfl⟩ | ⟨i, e, rfl, hi⟩
  · have HL0 := hide hL0
    clear hL0 b1
    go_wp2_with fail
    ((with_reducible refine (qzero_calls _).mono ?_); rintro e' w5 ⟨v5, rfl, o5, b5⟩)
    obtain ⟨s5, A5, n5, c5, A5', n5', c5', rfl, -⟩ := o5.open_
    have HO5 := hide o5; have HB5 := hide b5
    have hr5 := HR1.out.later (HB1.out.trans HB5.out)
    obtain ⟨d1, d2, d3, d4, d5, d6, d7, d8⟩ := row_cells4 hr5
    have HR5 := hide hr5
    have hs1 := HB1.out.size
    clear o5 b5 hr5
    go_wp2_with fail
    refine bodyPost_ret (results_int_rat_bool rfl rfl rfl rfl (HR5.out.four _ _ _ _)) rfl ?_
    have oo := Only.four w.heap.size w5 (.bool s5) (.slice A5 n5 c5) (.bool false) (.slice A5' n5' c5')
    have hB5 : w.heap.size < w1.heap.size := by rw [hsz] at hs1; omega
    exact .inl ⟨HL0.out, _, rfl, (HO5.out.only oo hB5).weaken (by omega), ((B0.out.trans HB1.out).trans HB5.out).only oo (Nat.le_refl _)⟩
  · have HI := hide hi
    have hil := (List.getElem?_eq_some_iff.1 hi.1).1
    obtain ⟨g, cap, n', hv, hn', hcap, hcm, hkc⟩ := own_read HQ.out.ks (by omega)
    injection hv with v1 v2 v3
    subst v1 v2 v3
    obtain ⟨h, cap', n'', hv, -, hcap', hcm', hjc⟩ := own_read HQ.out.js (by omega)
    injection hv with v1 v2 v3
    subst v1 v2 v3
    have hq1' := ((HQ.out.later B0.out).later b1)
    obtain ⟨d0, d1, d2, d3⟩ := hq1'.kcell hi.1
    have d4 := hq1'.jcell hi.1
    have hq0 := hq1'.row.cell (i := 0) rfl
    have hq1 := hq1'.row.cell (i := 1) rfl
    have hr1 := HR1.out.later b1
    have HQ1 := hide hq1'
    have hi0 : (0 : Int) ≤ (i : Int) := by omega
    have hi1 : (i : Int) < (m : Int) := by omega
    have hgl1 : g < w1.heap.size := World.block_lt_of_cell? _ _ d0
    have hhl1 : h < w1.heap.size := World.block_lt_of_cell? _ _ d4
    have hmd : m ≤ d := by have := HN.out; omega
    have hmc : m ≤ c := by have := HN.out; omega
    have HKC := hide hkc; have HJC := hide hjc; have HR2 := hide hr1
    have hgl1 : gr < w1.heap.size := hq1'.row.lt
    clear hi hil hn' b1 hr1 hkc hjc hq1'
    go_upto_region 6 with fail
    obtain ⟨w5, hw5⟩ : ∃ w5, w5 = w1.alloc (Obj.cells #[Value.bool e.s, Value.slice e.A e.n e.c, Value.bool false, Value.slice e.A' e.n' e.c'] 35) := ⟨_, rfl⟩
    obtain ⟨hb5, r5, hsz5⟩ := boxes1 w1 [.bool e.s, .slice e.A e.n e.c, .bool false, .slice e.A' e.n' e.c'] 35 hw5
    have hx1 : w5.cell? ⟨gr, 1, none⟩ = some (.slice (some ⟨h, 0, none⟩) m d) := (HQ1.out.later hb5).row.cell rfl
    have HS6 : Hid (∀ w', Later w5 w' → w'.cell? ⟨gr, 1, none⟩ = some (.slice (some ⟨h, 0, none⟩) m d)) := hide fun w' hb => (HQ1.out.later (hb5.trans hb)).row.cell rfl
    have HC5 : Hid (∀ j u, (L.flatMap jf)[j]? = some u → w5.cell? ⟨h, j, none⟩ = some u) := hide fun j u hj => Later.cell ((B0.out.trans HB1.out).trans hb5) (HJC.out j u hj)
    have HW5 := hide hw5; have HB5 := hide hb5; have HR5 := hide r5
    have HQ5 := hide (HQ1.out.later hb5)
    have HZ5 := hide hsz5
    obtain ⟨off, hoff⟩ : ∃ off, off = if d = i + 1 then 0 else i + 1 := ⟨_, rfl⟩
    have had : (if d = i + 1 then some (⟨h, 0, none⟩ : Addr) else some ⟨h, i + 1, none⟩) = some ⟨h, off, none⟩ := by rw [hoff]; split <;> rfl
    have HAD : Hid (∀ j u, ((L.drop (i + 1)).flatMap jf)[j]? = some u → w5.cell? ⟨h, off + j, none⟩ = some u) := hide fun j u hj => by
      have h1 := flatk_suf jf 1 (fun _ => rfl) L (i + 1) j u (by have := HN.out; omega) hj
      rw [Nat.mul_one] at h1
      rw [hoff]
      split
      · rename_i hd
        have hnil : L.drop (i + 1) = [] := List.drop_eq_nil_of_le (by have := HN.out; omega)
        rw [hnil] at hj; simp at hj
      · exact HC5.out _ _ h1
    clear hw5 hb5 r5 hsz5 hoff
    rw [← HW5.out]
    have hl6 := (Later.refl w5).drew
    have hw1 : IntKind.i64.wrap ((i : Int) + 1) = (i : Int) + 1 := IntWalk.i64_in _ (by omega)
    have hw2 : (0 : Int) ≤ (i : Int) + 1 := by omega
    have hw3 : ((i : Int) + 1).toNat = i + 1 := by omega
    have hw4 : (i : Int) + 1 ≤ (m : Int) := by omega
    have hw5 : (m : Int) ≤ (d : Int) := by omega
    have hw6 : i + 1 ≤ m := by omega
    have hw7 : i ≤ d := by omega
    have hw8 : i ≤ c := by omega
    have hw9' : (m : Int) ≤ (c : Int) := by omega
    refine wp_region_N (fun w' => w'.cell? ⟨gr, 1, none⟩ = some (.slice (some ⟨h, 0, none⟩) m d)) [19] hmx (HS6.out _ hl6) (fun hHeld => ?_)
    refine wpAnyN_takeD (some 27) (by rfl) (i := 0) (oi := _) (v := ?_) rfl (by kernel_rfl) (by kernel_rfl) (by kernel_rfl) (by kernel_rfl) (fun _ _ _ h => h) (Or.inl ⟨by rfl, ?_⟩) (by assumption) ?_
    rotate_left
    · intro w hSw; (try dsimp only at hSw); go_simp
      first | done | with_reducible rfl
    try simp only [Act.put, List.setIfInBounds_toArray, List.set_cons_zero, List.set_cons_succ]
    refine wpAnyN_takeD (some 29) (by rfl) (i := 2) (oi := _) (v := ?_) rfl (by kernel_rfl) (by kernel_rfl) (by kernel_rfl) (by kernel_rfl) (fun _ _ _ h => h) (Or.inl ⟨by rfl, ?_⟩) (by assumption) ?_
    rotate_left
    · intro w hSw; (try dsimp only at hSw); go_simp
      first | done | with_reducible rfl
    try simp only [Act.put, List.setIfInBounds_toArray, List.set_cons_zero, List.set_cons_succ]
    refine wpAnyN_takeD (some 30) (by rfl) (i := 3) (oi := _) (v := ?_) rfl (by kernel_rfl) (by kernel_rfl) (by kernel_rfl) (by kernel_rfl) (fun _ _ _ h => h) (Or.inl ⟨by rfl, ?_⟩) (by assumption) ?_
    rotate_left
    · intro w hSw; (try dsimp only at hSw); go_simp
      first | done | with_reducible rfl
    try simp only [Act.put, List.setIfInBounds_toArray, List.set_cons_zero, List.set_cons_succ]
    refine wpAnyN_takeD (some 31) (by rfl) (i := 4) (oi := _) (v := ?_) rfl (by kernel_rfl) (by kernel_rfl) (by kernel_rfl) (by kernel_rfl) (fun _ _ _ h => h) (Or.inl ⟨by rfl, ?_⟩) (by assumption) ?_
    rotate_left
    · intro w hSw; (try dsimp only at hSw); go_simp
      first | done | with_reducible rfl
    try simp only [Act.put, List.setIfInBounds_toArray, List.set_cons_zero, List.set_cons_succ]
    refine wpAnyN_takeD (some 32) (by rfl) (i := 5) (oi := _) (v := ?_) rfl (by kernel_rfl) (by kernel_rfl) (by kernel_rfl) (by kernel_rfl) (fun _ _ _ h => h) (Or.inl ⟨by rfl, ?_⟩) (by assumption) ?_
    rotate_left
    · intro w hSw; (try dsimp only at hSw); go_simp
      first | done | with_reducible rfl
    try simp only [Act.put, List.setIfInBounds_toArray, List.set_cons_zero, List.set_cons_succ]
    refine wpAnyN_takeD (some 33) (by rfl) (i := 6) (oi := _) (v := ?_) rfl (by kernel_rfl) (by kernel_rfl) (by kernel_rfl) (by kernel_rfl) (fun _ _ _ h => h) (Or.inl ⟨by rfl, ?_⟩) (by assumption) ?_
    rotate_left
    · intro w hSw; (try dsimp only at hSw); go_simp
      first | done | with_reducible rfl
    try simp only [Act.put, List.setIfInBounds_toArray, List.set_cons_zero, List.set_cons_succ]
    refine wpAnyN_takeD (some 34) (by rfl) (i := 7) (oi := _) (v := ?_) rfl (by kernel_rfl) (by kernel_rfl) (by kernel_rfl) (by kernel_rfl) (fun _ _ _ h => h) (Or.inl ⟨by rfl, ?_⟩) (by assumption) ?_
    rotate_left
    · intro w hSw; (try dsimp only at hSw); go_simp
      first | done | with_reducible rfl
    try simp only [Act.put, List.setIfInBounds_toArray, List.set_cons_zero, List.set_cons_succ]
    refine wpAnyN_takeD (some 36) (by rfl) (i := 9) (oi := _) (v := ?_) rfl (by kernel_rfl) (by kernel_rfl) (by kernel_rfl) (by kernel_rfl) (fun _ _ _ h => h) (Or.inl ⟨by rfl, ?_⟩) (by assumption) ?_
    rotate_left
    · intro w hSw; (try dsimp only at hSw); go_simp
      first | done | with_reducible rfl
    try simp only [Act.put, List.setIfInBounds_toArray, List.set_cons_zero, List.set_cons_succ]
    refine wpAnyN_takeD (some 37) (by rfl) (i := 10) (oi := _) (v := ?_) rfl (by kernel_rfl) (by kernel_rfl) (by kernel_rfl) (by kernel_rfl) (fun _ _ _ h => h) (Or.inl ⟨by rfl, ?_⟩) (by assumption) ?_
    rotate_left
    · intro w hSw; (try dsimp only at hSw); go_simp
      first | done | with_reducible rfl
    try simp only [Act.put, List.setIfInBounds_toArray, List.set_cons_zero, List.set_cons_succ]
    refine wpAnyN_takeD (some 38) (by rfl) (i := 11) (oi := _) (v := ?_) rfl (by kernel_rfl) (by kernel_rfl) (by kernel_rfl) (by kernel_rfl) (fun _ _ _ h => h) (Or.inl ⟨by rfl, ?_⟩) (by assumption) ?_
    rotate_left
    · intro w hSw; (try dsimp only at hSw); go_simp
      first | done | with_reducible rfl
    try simp only [Act.put, List.setIfInBounds_toArray, List.set_cons_zero, List.set_cons_succ]
    refine wpAnyN_takeD (some 39) (by rfl) (i := 12) (oi := _) (v := ?_) rfl (by kernel_rfl) (by kernel_rfl) (by kernel_rfl) (by kernel_rfl) (fun _ _ _ h => h) (Or.inl ⟨by rfl, ?_⟩) (by assumption) ?_
    rotate_left
    · intro w hSw; (try dsimp only at hSw); go_simp
      first | done | with_reducible rfl
    try simp only [Act.put, List.setIfInBounds_toArray, List.set_cons_zero, List.set_cons_succ]
    refine wpAnyN_takeD (some 40) (by rfl) (i := 13) (oi := _) (v := ?_) rfl (by kernel_rfl) (by kernel_rfl) (by kernel_rfl) (by kernel_rfl) (fun _ _ _ h => h) (Or.inl ⟨by rfl, ?_⟩) (by assumption) ?_
    rotate_left
    · intro w hSw; (try dsimp only at hSw); go_simp
      first | done | with_reducible rfl
    try simp only [Act.put, List.setIfInBounds_toArray, List.set_cons_zero, List.set_cons_succ]
    refine wpAnyN_takeD (some 41) (by rfl) (i := 14) (oi := _) (v := ?_) rfl (by kernel_rfl) (by kernel_rfl) (by kernel_rfl) (by kernel_rfl) (fun _ _ _ h => h) (Or.inl ⟨by rfl, ?_⟩) (by assumption) ?_
    rotate_left
    · intro w hSw; (try dsimp only at hSw); go_simp
      first | done | with_reducible rfl
    try simp only [Act.put, List.setIfInBounds_toArray, List.set_cons_zero, List.set_cons_succ]
    refine wpAnyN_takeD (some 42) (by rfl) (i := 15) (oi := _) (v := ?_) rfl (by kernel_rfl) (by kernel_rfl) (by kernel_rfl) (by kernel_rfl) (fun _ _ _ h => h) (Or.inl ⟨by rfl, ?_⟩) (by assumption) ?_
    rotate_left
    · intro w hSw; (try dsimp only at hSw); go_simp
      first | done | with_reducible rfl
    try simp only [Act.put, List.setIfInBounds_toArray, List.set_cons_zero, List.set_cons_succ]
    refine wpAnyN_ready (rs := [1]) (by kernel_rfl) (by simp) ?_
    refine AllReadyN.held rfl (by rfl) (fun K hK => ?_) AllReadyN.nil
    go_simp
    have hl6 : Later w5 (w5.alloc (Obj.cells #[] 3)).drew := ((Later.refl w5).alloc _).drew
    refine hK.out _ _ ?_ (fun hHeld => ?_)
    · exact HS6.out _ hl6
    clear hK K
    try simp only [Act.put, List.setIfInBounds_toArray, List.set_cons_zero, List.set_cons_succ]
    refine wpAnyN_ready (rs := [8]) (by kernel_rfl) (by simp) ?_
    refine AllReadyN.held rfl (by rfl) (fun K hK => ?_) AllReadyN.nil
    refine wp_append_j _ _ rfl _ [] (L.take i) (by rfl) (B0 := w5.heap.size) (Later.size_le hl6) (show World.ownsRow (w5.alloc (Obj.cells #[] 3)) w5.heap.size 3 1 (.slice (some ⟨w5.heap.size, 0, none⟩) 0 0) 0 [] from own_empty w5 _ _) h 0 i d (by rfl) (by rw [List.length_take, Nat.min_eq_left]; have := HN.out; omega) (fun j u hj => by rw [Nat.zero_add]; exact Later.cell hl6 (HC5.out j u (flatk_pre jf 1 (fun _ => rfl) L i j u hj))) (by rw [List.length_take]; simp; omega) ?_
    intro v8 w8 k1 k2 k3
    rw [List.nil_append] at k1
    have hl8 : Later w5 w8 := Later.grown hl6 k2 (fun k hk => by have e : some w5.heap.size = some k := hk; injection e with e; omega)
    have HJ8 := hide k1
    clear k1 k2 k3
    refine hK.out _ _ ?_ (fun hHeld => ?_)
    · exact HS6.out _ hl8
    clear hK K
    try simp only [Act.put, List.setIfInBounds_toArray, List.set_cons_zero, List.set_cons_succ]
    refine wpAnyN_ready (rs := [16]) (by kernel_rfl) (by simp) ?_
    refine AllReadyN.held rfl (by rfl) (fun K hK => ?_) AllReadyN.nil
    refine wp_append_j _ _ rfl _ (L.take i) (L.drop (i + 1)) (by rfl) (B0 := w5.heap.size) (Later.size_le hl8) HJ8.out h off _ _ (by rfl) (by rw [List.length_drop, ← HN.out]) (fun j u hj => Later.cell hl8 (HAD.out j u hj)) (by rw [List.length_take, List.length_drop]; omega) ?_
    intro v16 w16 k1 k2 k3
    obtain ⟨A16, n16, c16, rfl, -⟩ := own_form k1
    have hl16 : Later w5 w16 := Later.grown hl8 k2 (fun k hk => (World.ownsRow.lt HJ8.out k hk).1)
    rw [← List.eraseIdx_eq_take_drop_succ] at k1
    have HJ16 := hide k1
    have p16 := HS6.out _ hl16
    have y16 := (HQ5.out.later hl16).row.frozen 1
    clear k1 k2 k3
    refine hK.out _ _ ?_ (fun hHeld => ?_)
    · exact HS6.out _ hl16
    clear hK K
    try simp only [Act.put, List.setIfInBounds_toArray, List.set_cons_zero, List.set_cons_succ]
    refine wpAnyN_ready (rs := [17]) (by kernel_rfl) (by simp) ?_
    refine AllReadyN.held rfl (by rfl) (fun K hK => ?_) AllReadyN.nil
    go_simp
    refine hK.out _ _ ?_ (fun hHeld => ?_)
    · exact HS6.out _ hl16
    clear hK K
    try simp only [Act.put, List.setIfInBounds_toArray, List.set_cons_zero, List.set_cons_succ]
    refine wpAnyN_takeD (some 45) (by rfl) (i := 18) (oi := _) (v := ?_) rfl (by kernel_rfl) (by kernel_rfl) (by kernel_rfl) (by kernel_rfl) (fun _ _ _ h => h) (Or.inl ⟨by rfl, ?_⟩) (by assumption) ?_
    rotate_left
    · intro w hSw; (try dsimp only at hSw); go_simp
      first | done | with_reducible rfl
    try simp only [Act.put, List.setIfInBounds_toArray, List.set_cons_zero, List.set_cons_succ]
    refine wpAnyN_ready (rs := [19]) (by kernel_rfl) (by simp) ?_
    refine AllReadyN.free rfl (by rfl) (by kernel_rfl) (fun K hK => ?_) AllReadyN.nil
    go_simp
    refine hK.out _ _ ?_
    clear hK K
    try simp only [Act.put, List.setIfInBounds_toArray, List.set_cons_zero, List.set_cons_succ]
    refine wpAnyN_done (by kernel_rfl) ?_ _
    obtain ⟨w9, hw9⟩ : ∃ w9, w9 = w16.setCell ⟨gr, 1, none⟩ (.slice A16 n16 c16) := ⟨_, rfl⟩
    rw [← hw9]
    have HSET9 : Hid (RQ w9 (fun b => (R b ∧ b < w.heap.size) ∨ w5.heap.size ≤ b) gr (.slice (some ⟨g, 0, none⟩) m c) (.slice A16 n16 c16) L (L.eraseIdx i) ∧ Tch (fun b => R b ∧ b < w.heap.size) w5 w9) := hide (by
      rw [hw9]
      exact HQ5.out.setj hl16.tch (ownsRow_weaken HJ16.out (Nat.zero_le _)) (fun k hk => .inr (World.ownsRow.lt HJ16.out k hk).1))
    have HT9 : Hid (Tch (fun b => b = gr) w5 w9) := hide (by rw [hw9]; exact Tch.setCell (S := fun b => b = gr) hl16.tch rfl _)
    have HKC9 : Hid (∀ j u, (L.flatMap kf)[j]? = some u → w9.cell? ⟨g, j, none⟩ = some u) := hide fun j u hj => by
      obtain ⟨g', c', n', e1, -, -, -, hc⟩ := own_read HSET9.out.1.ks (by have := HN.out; omega)
      injection e1 with e1; injection e1 with e1; injection e1 with e1
      rw [e1]; exact hc j u hj
    have HS7 : Hid (∀ w', Later w9 w' → w'.cell? ⟨gr, 0, none⟩ = some (.slice (some ⟨g, 0, none⟩) m c)) := hide fun w' hb => (HSET9.out.1.row.later hb).cell rfl
    obtain ⟨off2, hoff2⟩ : ∃ off, off = if c = i + 1 then 0 else (i + 1) * 4 := ⟨_, rfl⟩
    have had2 : (if c = i + 1 then some (⟨g, 0, none⟩ : Addr) else some ⟨g, (i + 1) * 4, none⟩) = some ⟨g, off2, none⟩ := by rw [hoff2]; split <;> rfl
    have HAD2 : Hid (∀ j u, ((L.drop (i + 1)).flatMap kf)[j]? = some u → w9.cell? ⟨g, off2 + j, none⟩ = some u) := hide fun j u hj => by
      have h1 := flatk_suf kf 4 (fun _ => rfl) L (i + 1) j u (by have := HN.out; omega) hj
      rw [hoff2]
      split
      · rename_i hd
        have hnil : L.drop (i + 1) = [] := List.drop_eq_nil_of_le (by have := HN.out; omega)
        rw [hnil] at hj; simp at hj
      · exact HKC9.out _ _ h1
    have hl7 := (Later.refl w9).drew
    have hx2 := HS7.out _ (Later.refl w9)
    clear hw9 hoff2 p16 y16 hx1 hHeld
    go_upto_region 7 with fail
    refine wp_region_N (fun w' => w'.cell? ⟨gr, 0, none⟩ = some (.slice (some ⟨g, 0, none⟩) m c)) [19] hmx (HS7.out _ hl7) (fun hHeld => ?_)
    refine wpAnyN_takeD (some 46) (by rfl) (i := 0) (oi := _) (v := ?_) rfl (by kernel_rfl) (by kernel_rfl) (by kernel_rfl) (by kernel_rfl) (fun _ _ _ h => h) (Or.inl ⟨by rfl, ?_⟩) (by assumption) ?_
    rotate_left
    · intro w hSw; (try dsimp only at hSw); go_simp
      first | done | with_reducible rfl
    try simp only [Act.put, List.setIfInBounds_toArray, List.set_cons_zero, List.set_cons_succ]
    refine wpAnyN_takeD (some 48) (by rfl) (i := 2) (oi := _) (v := ?_) rfl (by kernel_rfl) (by kernel_rfl) (by kernel_rfl) (by kernel_rfl) (fun _ _ _ h => h) (Or.inl ⟨by rfl, ?_⟩) (by assumption) ?_
    rotate_left
    · intro w hSw; (try dsimp only at hSw); go_simp
      first | done | with_reducible rfl
    try simp only [Act.put, List.setIfInBounds_toArray, List.set_cons_zero, List.set_cons_succ]
    refine wpAnyN_takeD (some 49) (by rfl) (i := 3) (oi := _) (v := ?_) rfl (by kernel_rfl) (by kernel_rfl) (by kernel_rfl) (by kernel_rfl) (fun _ _ _ h => h) (Or.inl ⟨by rfl, ?_⟩) (by assumption) ?_
    rotate_left
    · intro w hSw; (try dsimp only at hSw); go_simp
      first | done | with_reducible rfl
    try simp only [Act.put, List.setIfInBounds_toArray, List.set_cons_zero, List.set_cons_succ]
    refine wpAnyN_takeD (some 50) (by rfl) (i := 4) (oi := _) (v := ?_) rfl (by kernel_rfl) (by kernel_rfl) (by kernel_rfl) (by kernel_rfl) (fun _ _ _ h => h) (Or.inl ⟨by rfl, ?_⟩) (by assumption) ?_
    rotate_left
    · intro w hSw; (try dsimp only at hSw); go_simp
      first | done | with_reducible rfl
    try simp only [Act.put, List.setIfInBounds_toArray, List.set_cons_zero, List.set_cons_succ]
    refine wpAnyN_takeD (some 51) (by rfl) (i := 5) (oi := _) (v := ?_) rfl (by kernel_rfl) (by kernel_rfl) (by kernel_rfl) (by kernel_rfl) (fun _ _ _ h => h) (Or.inl ⟨by rfl, ?_⟩) (by assumption) ?_
    rotate_left
    · intro w hSw; (try dsimp only at hSw); go_simp
      first | done | with_reducible rfl
    try simp only [Act.put, List.setIfInBounds_toArray, List.set_cons_zero, List.set_cons_succ]
    refine wpAnyN_takeD (some 52) (by rfl) (i := 6) (oi := _) (v := ?_) rfl (by kernel_rfl) (by kernel_rfl) (by kernel_rfl) (by kernel_rfl) (fun _ _ _ h => h) (Or.inl ⟨by rfl, ?_⟩) (by assumption) ?_
    rotate_left
    · intro w hSw; (try dsimp only at hSw); go_simp
      first | done | with_reducible rfl
    try simp only [Act.put, List.setIfInBounds_toArray, List.set_cons_zero, List.set_cons_succ]
    refine wpAnyN_takeD (some 53) (by rfl) (i := 7) (oi := _) (v := ?_) rfl (by kernel_rfl) (by kernel_rfl) (by kernel_rfl) (by kernel_rfl) (fun _ _ _ h => h) (Or.inl ⟨by rfl, ?_⟩) (by assumption) ?_
    rotate_left
    · intro w hSw; (try dsimp only at hSw); go_simp
      first | done | with_reducible rfl
    try simp only [Act.put, List.setIfInBounds_toArray, List.set_cons_zero, List.set_cons_succ]
    refine wpAnyN_takeD (some 55) (by rfl) (i := 9) (oi := _) (v := ?_) rfl (by kernel_rfl) (by kernel_rfl) (by kernel_rfl) (by kernel_rfl) (fun _ _ _ h => h) (Or.inl ⟨by rfl, ?_⟩) (by assumption) ?_
    rotate_left
    · intro w hSw; (try dsimp only at hSw); go_simp
      first | done | with_reducible rfl
    try simp only [Act.put, List.setIfInBounds_toArray, List.set_cons_zero, List.set_cons_succ]
    refine wpAnyN_takeD (some 56) (by rfl) (i := 10) (oi := _) (v := ?_) rfl (by kernel_rfl) (by kernel_rfl) (by kernel_rfl) (by kernel_rfl) (fun _ _ _ h => h) (Or.inl ⟨by rfl, ?_⟩) (by assumption) ?_
    rotate_left
    · intro w hSw; (try dsimp only at hSw); go_simp
      first | done | with_reducible rfl
    try simp only [Act.put, List.setIfInBounds_toArray, List.set_cons_zero, List.set_cons_succ]
    refine wpAnyN_takeD (some 57) (by rfl) (i := 11) (oi := _) (v := ?_) rfl (by kernel_rfl) (by kernel_rfl) (by kernel_rfl) (by kernel_rfl) (fun _ _ _ h => h) (Or.inl ⟨by rfl, ?_⟩) (by assumption) ?_
    rotate_left
    · intro w hSw; (try dsimp only at hSw); go_simp
      first | done | with_reducible rfl
    try simp only [Act.put, List.setIfInBounds_toArray, List.set_cons_zero, List.set_cons_succ]
    refine wpAnyN_takeD (some 58) (by rfl) (i := 12) (oi := _) (v := ?_) rfl (by kernel_rfl) (by kernel_rfl) (by kernel_rfl) (by kernel_rfl) (fun _ _ _ h => h) (Or.inl ⟨by rfl, ?_⟩) (by assumption) ?_
    rotate_left
    · intro w hSw; (try dsimp only at hSw); go_simp
      first | done | with_reducible rfl
    try simp only [Act.put, List.setIfInBounds_toArray, List.set_cons_zero, List.set_cons_succ]
    refine wpAnyN_takeD (some 59) (by rfl) (i := 13) (oi := _) (v := ?_) rfl (by kernel_rfl) (by kernel_rfl) (by kernel_rfl) (by kernel_rfl) (fun _ _ _ h => h) (Or.inl ⟨by rfl, ?_⟩) (by assumption) ?_
    rotate_left
    · intro w hSw; (try dsimp only at hSw); go_simp
      first | done | with_reducible rfl
    try simp only [Act.put, List.setIfInBounds_toArray, List.set_cons_zero, List.set_cons_succ]
    refine wpAnyN_takeD (some 60) (by rfl) (i := 14) (oi := _) (v := ?_) rfl (by kernel_rfl) (by kernel_rfl) (by kernel_rfl) (by kernel_rfl) (fun _ _ _ h => h) (Or.inl ⟨by rfl, ?_⟩) (by assumption) ?_
    rotate_left
    · intro w hSw; (try dsimp only at hSw); go_simp
      first | done | with_reducible rfl
    try simp only [Act.put, List.setIfInBounds_toArray, List.set_cons_zero, List.set_cons_succ]
    refine wpAnyN_takeD (some 61) (by rfl) (i := 15) (oi := _) (v := ?_) rfl (by kernel_rfl) (by kernel_rfl) (by kernel_rfl) (by kernel_rfl) (fun _ _ _ h => h) (Or.inl ⟨by rfl, ?_⟩) (by assumption) ?_
    rotate_left
    · intro w hSw; (try dsimp only at hSw); go_simp
      first | done | with_reducible rfl
    try simp only [Act.put, List.setIfInBounds_toArray, List.set_cons_zero, List.set_cons_succ]
    refine wpAnyN_ready (rs := [1]) (by kernel_rfl) (by simp) ?_
    refine AllReadyN.held rfl (by rfl) (fun K hK => ?_) AllReadyN.nil
    go_simp
    have hl7 : Later w9 (w9.alloc (Obj.cells #[] 35)).drew := ((Later.refl w9).alloc _).drew
    refine hK.out _ _ ?_ (fun hHeld => ?_)
    · exact HS7.out _ hl7
    clear hK K
    try simp only [Act.put, List.setIfInBounds_toArray, List.set_cons_zero, List.set_cons_succ]
    refine wpAnyN_ready (rs := [8]) (by kernel_rfl) (by simp) ?_
    refine AllReadyN.held rfl (by rfl) (fun K hK => ?_) AllReadyN.nil
    refine wp_append_k _ _ rfl _ [] (L.take i) (by rfl) (B0 := w9.heap.size) (Later.size_le hl7) (show World.ownsRow (w9.alloc (Obj.cells #[] 35)) w9.heap.size 35 4 (.slice (some ⟨w9.heap.size, 0, none⟩) 0 0) 0 [] from own_empty w9 _ _) g 0 i c (by rfl) (by rw [List.length_take, Nat.min_eq_left]; have := HN.out; omega) (fun j u hj => by rw [Nat.zero_add]; exact Later.cell hl7 (HKC9.out j u (flatk_pre kf 4 (fun _ => rfl) L i j u hj))) (by rw [List.length_take]; simp; omega) ?_
    intro v10 w10 k1 k2 k3
    rw [List.nil_append] at k1
    have hl10 : Later w9 w10 := Later.grown hl7 k2 (fun k hk => by have e : some w9.heap.size = some k := hk; injection e with e; omega)
    have HJ10 := hide k1
    clear k1 k2 k3
    refine hK.out _ _ ?_ (fun hHeld => ?_)
    · exact HS7.out _ hl10
    clear hK K
    try simp only [Act.put, List.setIfInBounds_toArray, List.set_cons_zero, List.set_cons_succ]
    refine wpAnyN_ready (rs := [16]) (by kernel_rfl) (by simp) ?_
    refine AllReadyN.held rfl (by rfl) (fun K hK => ?_) AllReadyN.nil
    refine wp_append_k _ _ rfl _ (L.take i) (L.drop (i + 1)) (by rfl) (B0 := w9.heap.size) (Later.size_le hl10) HJ10.out g off2 _ _ (by rfl) (by rw [List.length_drop, ← HN.out]) (fun j u hj => Later.cell hl10 (HAD2.out j u hj)) (by rw [List.length_take, List.length_drop]; omega) ?_
    intro v17 w17 k1 k2 k3
    obtain ⟨A17, n17, c17, rfl, -⟩ := own_form k1
    have hl17 : Later w9 w17 := Later.grown hl10 k2 (fun k hk => (World.ownsRow.lt HJ10.out k hk).1)
    rw [← List.eraseIdx_eq_take_drop_succ] at k1
    have HJ17 := hide k1
    have p17 := HS7.out _ hl17
    have y17 := (HSET9.out.1.row.later hl17).frozen 0
    clear k1 k2 k3
    refine hK.out _ _ ?_ (fun hHeld => ?_)
    · exact HS7.out _ hl17
    clear hK K
    try simp only [Act.put, List.setIfInBounds_toArray, List.set_cons_zero, List.set_cons_succ]
    refine wpAnyN_ready (rs := [17]) (by kernel_rfl) (by simp) ?_
    refine AllReadyN.held rfl (by rfl) (fun K hK => ?_) AllReadyN.nil
    go_simp
    refine hK.out _ _ ?_ (fun hHeld => ?_)
    · exact HS7.out _ hl17
    clear hK K
    try simp only [Act.put, List.setIfInBounds_toArray, List.set_cons_zero, List.set_cons_succ]
    refine wpAnyN_takeD (some 64) (by rfl) (i := 18) (oi := _) (v := ?_) rfl (by kernel_rfl) (by kernel_rfl) (by kernel_rfl) (by kernel_rfl) (fun _ _ _ h => h) (Or.inl ⟨by rfl, ?_⟩) (by assumption) ?_
    rotate_left
    · intro w hSw; (try dsimp only at hSw); go_simp
      first | done | with_reducible rfl
    try simp only [Act.put, List.setIfInBounds_toArray, List.set_cons_zero, List.set_cons_succ]
    refine wpAnyN_ready (rs := [19]) (by kernel_rfl) (by simp) ?_
    refine AllReadyN.free rfl (by rfl) (by kernel_rfl) (fun K hK => ?_) AllReadyN.nil
    go_simp
    refine hK.out _ _ ?_
    clear hK K
    try simp only [Act.put, List.setIfInBounds_toArray, List.set_cons_zero, List.set_cons_succ]
    refine wpAnyN_done (by kernel_rfl) ?_ _
    obtain ⟨w18, hw18⟩ : ∃ w18, w18 = w17.setCell ⟨gr, 0, none⟩ (.slice A17 n17 c17) := ⟨_, rfl⟩
    rw [← hw18]
    have HSET18 : Hid (RQ w18 (fun b => ((R b ∧ b < w.heap.size) ∨ w5.heap.size ≤ b) ∨ w9.heap.size ≤ b) gr (.slice A17 n17 c17) (.slice A16 n16 c16) (L.eraseIdx i) (L.eraseIdx i) ∧ Tch (fun b => (R b ∧ b < w.heap.size) ∨ w5.heap.size ≤ b) w9 w18) := hide (by
      rw [hw18]
      refine HSET9.out.1.setk hl17.tch (ownsRow_weaken HJ17.out (Nat.zero_le _)) (fun k hk => .inr (World.ownsRow.lt HJ17.out k hk).1) ?_
      refine ⟨((HSET9.out.1.keys.sub (fun x hx => List.mem_of_mem_eraseIdx hx)).ok.lt.later hl17).mono (fun b hb _ => ⟨.inl hb.1.1, hb.1.2.1, fun e => by have := (World.ownsRow.lt HJ17.out b e.symm).1; omega, hb.1.2.2.2⟩), fun x hx => HSET9.out.1.keys.sized x (List.mem_of_mem_eraseIdx hx)⟩)
    have HT18 : Hid (Tch (fun b => b = gr) w5 w18) := hide (HT9.out.trans (by rw [hw18]; exact Tch.setCell (S := fun b => b = gr) hl17.tch rfl _))
    have hgw : gr < w.heap.size := HQ.out.row.lt
    have hr7 : Row w18 w1.heap.size 35 [.bool e.s, .slice e.A e.n e.c, .bool false, .slice e.A' e.n' e.c'] := HR5.out.tch HT18.out (fun e => by have := B0.out.size; have := HB1.out.size; omega)
    have hr3 : Row w18 w.heap.size 35 [.bool false, .slice none 0 0, .bool false, .slice none 0 0] := (HR2.out.later HB5.out).tch HT18.out (fun e => by omega)
    obtain ⟨f0, f1, f2, f3, -⟩ := row_cells4 hr7
    obtain ⟨z0, z1, z2, z3, y0, y1, y2, y3⟩ := row_cells4 hr3
    have HR3 := hide hr3
    have hend := rtaken HI.out HQ.out B0.out HB1.out HB5.out HT18.out HSET9.out.2 HSET18.out.1 HSET18.out.2 hsz (.bool e.s) (.slice e.A e.n e.c) (.bool false) (.slice e.A' e.n' e.c')
    have HEND := hide hend
    clear hw18 hr7 hr3 p17 y17 hx2 hHeld hend
    go_upto_region 8 with fail
    refine wp_region_N (fun _ => True) [] hmx trivial (fun hHeld => ?_)
    refine wpAnyN_takeD (some 65) (by rfl) (i := 0) (oi := _) (v := ?_) rfl (by kernel_rfl) (by kernel_rfl) (by kernel_rfl) (by kernel_rfl) (fun _ _ _ h => h) (Or.inl ⟨by rfl, ?_⟩) (by assumption) ?_
    rotate_left
    · intro w hSw; (try dsimp only at hSw); go_simp
      first | done | with_reducible rfl
    try simp only [Act.put, List.setIfInBounds_toArray, List.set_cons_zero, List.set_cons_succ]
    refine wpAnyN_takeD (some 2) (by rfl) (i := 2) (oi := _) (v := ?_) rfl (by kernel_rfl) (by kernel_rfl) (by kernel_rfl) (by kernel_rfl) (fun _ _ _ h => h) (Or.inl ⟨by rfl, ?_⟩) (by assumption) ?_
    rotate_left
    · intro w hSw; (try dsimp only at hSw); go_simp
      first | done | with_reducible rfl
    try simp only [Act.put, List.setIfInBounds_toArray, List.set_cons_zero, List.set_cons_succ]
    refine wpAnyN_ready (rs := [1]) (by kernel_rfl) (by simp) ?_
    refine AllReadyN.held rfl (by rfl) (fun K hK => ?_) AllReadyN.nil
    go_simp
    refine hK.out _ _ ?_ (fun hHeld => ?_)
    · trivial
    clear hK K
    try simp only [Act.put, List.setIfInBounds_toArray, List.set_cons_zero, List.set_cons_succ]
    refine wpAnyN_ready (rs := [3]) (by kernel_rfl) (by simp) ?_
    refine AllReadyN.held rfl (by rfl) (fun K hK => ?_) AllReadyN.nil
    go_simp
    refine hK.out _ _ ?_ (fun hHeld => ?_)
    · trivial
    clear hK K
    try simp only [Act.put, List.setIfInBounds_toArray, List.set_cons_zero, List.set_cons_succ]
    refine wpAnyN_takeD (some 4) (by rfl) (i := 4) (oi := _) (v := ?_) rfl (by kernel_rfl) (by kernel_rfl) (by kernel_rfl) (by kernel_rfl) (fun _ _ _ h => h) (Or.inl ⟨by rfl, ?_⟩) (by assumption) ?_
    rotate_left
    · intro w hSw; (try dsimp only at hSw); go_simp
      first | done | with_reducible rfl
    try simp only [Act.put, List.setIfInBounds_toArray, List.set_cons_zero, List.set_cons_succ]
    refine wpAnyN_done (by kernel_rfl) ?_ _
    go_wp2_with fail
    refine bodyPost_ret (results_int_rat_bool rfl rfl rfl rfl (HR3.out.four _ _ _ _)) rfl ?_
    exact HEND.out

end Go.Proofs.Ytbhohnhkephefaa


/- Queues: the reference's Drop. -/
set_option linter.unusedVariables false
set_option linter.unusedSimpArgs false
set_option maxRecDepth 100000
namespace Go.Proofs.Ytbhohnhkephefaa
open Go.RowKit Go.Shelf
attribute [local go_sem ↓] Go.wp_at_zero Go.wp_at_succ

theorem own_apart {w : World} {B B' s s' n n' : Nat} {t t' : TypeId} {v v' : Value} {xs ys : List Value} (h : w.ownsRow B t s v n xs) (k : w.ownsRow B' t' s' v' n' ys) (ht : t ≠ t') : ∀ g, v.ownBlock = some g → some g ≠ v'.ownBlock := by
  obtain ⟨-, h2⟩ := h
  obtain ⟨-, k2⟩ := k
  intro g hg he
  rcases h2 with ⟨rfl, -⟩ | ⟨g1, c1, cur1, rfl, -, hg1, -⟩
  · cases hg
  rcases k2 with ⟨rfl, -⟩ | ⟨g2, c2, cur2, rfl, -, hg2, -⟩
  · cases he
  injection hg with hg; injection he with he
  subst hg
  subst he
  rw [hg1] at hg2
  injection hg2 with hg2
  injection hg2 with _ hg2 _
  exact absurd hg2 ht
theorem RQ.setkj {w wr : World} {R : Nat → Prop} {gr : Nat} {vk vi kv jv : Value} {Lk Lj L' : List Ent} (h : RQ w R gr vk vi Lk Lj) (hl : Later w wr) (hk : wr.ownsRow w.heap.size 35 4 kv L'.length (L'.flatMap kf)) (hj : wr.ownsRow w.heap.size 3 1 jv L'.length (L'.flatMap jf)) (hs : ∀ e ∈ L', e ∈ Lk) :
    RQ ((wr.setCell ⟨gr, 0, none⟩ kv).setCell ⟨gr, 1, none⟩ jv) (fun b => R b ∨ w.heap.size ≤ b) gr kv jv L' L' ∧ Tch R w ((wr.setCell ⟨gr, 0, none⟩ kv).setCell ⟨gr, 1, none⟩ jv) := by
  have hO : Tch (fun b => b = gr) wr ((wr.setCell ⟨gr, 0, none⟩ kv).setCell ⟨gr, 1, none⟩ jv) := ((Only.one gr wr 0 kv).set 1 jv).tch rfl
  have hgl := h.row.lt
  have hkk := World.ownsRow.lt hk
  have hjj := World.ownsRow.lt hj
  have hap := own_apart hk hj (by decide)
  refine ⟨⟨.inl h.sr, ((h.row.later hl).set_ 0 kv).set_ 1 jv, own_tch (ownsRow_weaken hk (Nat.zero_le _)) hO (fun g hg e => by have := (hkk g hg).1; omega), own_tch (ownsRow_weaken hj (Nat.zero_le _)) hO (fun g hg e => by have := (hjj g hg).1; omega),
    fun g hg => ⟨.inr (hkk g hg).1, by have := (hkk g hg).1; omega, hap g hg⟩, fun g hg => ⟨.inr (hjj g hg).1, by have := (hjj g hg).1; omega⟩, ?_⟩, (hl.tch (S := fun b => b = gr)).trans hO |>.mono (fun x _ e => e ▸ h.sr)⟩
  refine ⟨(((h.keys.sub hs).ok.lt.later hl).tch hO (fun x hx e => hx.1.2.1 e)).mono (fun b hb _ => ⟨.inl hb.1.1, hb.1.2.1, fun e => by have := (hkk b e.symm).1; omega, fun e => by have := (hjj b e.symm).1; omega⟩), fun e he => h.keys.sized e (hs e he)⟩
theorem cmp_pos {a b : Rat} {c : Int} (h : cmpQ a b = c) (hc : 0 < c) : b < a := by
  unfold cmpQ at h
  by_cases h1 : a < b
  · rw [if_pos h1] at h; omega
  · rw [if_neg h1] at h
    by_cases h2 : b < a
    · exact h2
    · rw [if_neg h2] at h; omega
theorem cmp_npos {a b : Rat} {c : Int} (h : cmpQ a b = c) (hc : ¬ 0 < c) : ¬ b < a := fun h2 => by
  unfold cmpQ at h
  have h1 : ¬ a < b := by grind
  rw [if_neg h1, if_pos h2] at h; omega
theorem notAbove_snoc {q : Rat} {L : List Ent} {j : Nat} {e : Ent} (h : L[j]? = some e) : notAbove q (L.take (j + 1)) = notAbove q (L.take j) ++ if q < e.key then [] else [e] := by
  unfold notAbove
  rw [filter_snoc _ L j e h]
  by_cases hq : q < e.key <;> simp [hq]
theorem notAbove_le (q : Rat) (L : List Ent) : (notAbove q L).length ≤ L.length := List.length_filter_le _ _
def RDropPost (w : World) (R : Nat → Prop) (gr : Nat) (L : List Ent) (q : Rat) (e' : Ending) (w' : World) : Prop :=
  e' = .returned (.int .i64 ((L.length : Int) - ((notAbove q L).length : Int))) ∧ ∃ R', RStep w R w' R' ∧ RQs w' R' gr (notAbove q L)
set_option maxHeartbeats 8000000 in
theorem rdrop_calls (w : World) (R : Nat → Prop) (gr : Nat) (L : List Ent) (vk : Value) (q : Rat) (hQ : RQs w R gr L) (hl : L.length ≤ 1000) (hk : RawR w vk q 50) :
    Calls Try.prog 17 #[.pointer (some ⟨gr, 0, none⟩), vk] w (RDropPost w R gr L q) := by
  obtain ⟨vk_, vi_, hQ⟩ := hQ
  obtain ⟨A, n, c, rfl, hn⟩ := own_form hQ.ks
  obtain ⟨B, m, d, rfl, hm⟩ := own_form hQ.js
  have hn2 : n ≤ 1000 := by omega
  have hmn : m = n := by omega
  subst hmn
  obtain ⟨sk, Ak, nk, ck, sk', Bk, mk, dk, rfl⟩ := hk.open_
  obtain ⟨W0, hW0⟩ : ∃ W0, W0 = w.alloc (Obj.cells #[Value.bool sk, Value.slice Ak nk ck, Value.bool sk', Value.slice Bk mk dk] 35) := ⟨_, rfl⟩
  obtain ⟨hb0, r1, hsz⟩ := boxes1 w [.bool sk, .slice Ak nk ck, .bool sk', .slice Bk mk dk] 35 hW0
  have HQ : Hid (RQ W0 (fun b => R b ∧ b < w.heap.size) gr (.slice A m c) (.slice B m d) L L) := hide (hQ.tch (T := fun _ => False) hb0.tch (fun _ _ _ h => h))
  have HR1 := hide r1; have HB0 := hide hb0; have HW0 := hide hW0; have HN := hide hn
  have HRAW := hide (hk.later hb0)
  clear hQ hk hW0 r1 hb0 hn hm hsz
  go_enter Try.func17, Try.ntmps17
  go_wp2_with fail
  rw [← HW0.out]
  go_loopw [5, 6, 7, 8] (fun kv jv nv iv wr => ∃ (j : Nat) (M : List Ent) (A5 A6 : Option Addr) (n5 c5 n6 c6 : Nat), j ≤ m ∧ kv = .slice A5 n5 c5 ∧ jv = .slice A6 n6 c6 ∧ nv = .int .i64 ((j : Int) - (M.length : Int)) ∧ iv = .int .i64 (j : Int) ∧ Hid (M = notAbove q (L.take j)) ∧ Hid (wr.ownsRow W0.heap.size 35 4 (.slice A5 n5 c5) M.length (M.flatMap kf)) ∧ Hid (wr.ownsRow W0.heap.size 3 1 (.slice A6 n6 c6) M.length (M.flatMap jf)) ∧ Hid (Later W0 wr)) (fun _ _ _ iv _ => (m - intOf iv).toNat)
  case atStart => exact ⟨0, [], none, none, 0, 0, 0, 0, by omega, rfl, rfl, rfl, rfl, hide rfl, hide (World.ownsRow_nil W0 _ _ 4), hide (World.ownsRow_nil W0 _ _ 1), hide (Later.refl _)⟩
  case round =>
    obtain ⟨j, M, A5, A6, n5, c5, n6, c6, hj, rfl, rfl, rfl, rfl, HM, HK5, HJ6, HL⟩ := hrel
    have hMl : M.length ≤ j := by rw [HM.out]; refine Nat.le_trans (notAbove_le _ _) ?_; rw [List.length_take]; omega
    have HQR := hide (HQ.out.later HL.out)
    have hq1 := HQR.out.row.cell (i := 1) rfl
    by_cases hjn : j < m
    · have hj1 : (j : Int) < (m : Int) := by omega
      have hj0 : (0 : Int) ≤ (j : Int) := by omega
      obtain ⟨e, he⟩ : ∃ e, e = fn L j := ⟨_, rfl⟩
      have hje : L[j]? = some e := by rw [he]; exact fn_at (by have := HN.out; omega)
      obtain ⟨g, cap, n', hv, hn', -, -, -⟩ := own_read HQ.out.ks (by have := HN.out; omega)
      injection hv with v1 v2 v3
      subst v1 v2 v3
      obtain ⟨h, cap', n'', hv, -, -, -, -⟩ := own_read HQ.out.js (by have := HN.out; omega)
      injection hv with v1 v2 v3
      subst v1 v2 v3
      have HJE := hide hje
      clear he hn'
      have hq0 := HQR.out.row.cell (i := 0) rfl
      obtain ⟨f0, f1, f2, f3⟩ := HQR.out.kcell hje
      have hr1 := HR1.out.later HL.out
      obtain ⟨g0, g1, g2, g3, -⟩ := row_cells4 hr1
      have HE1 : Hid (RawR wr (.agg #[.bool e.s, .slice e.A e.n e.c, .bool false, .slice e.A' e.n' e.c']) e.key 100) := hide (OwnR.raw (HQR.out.keys.ok.now e (List.mem_of_getElem? hje)) (HQR.out.keys.sized e (List.mem_of_getElem? hje)))
      have HE2 : Hid (RawR wr (.agg #[.bool sk, .slice Ak nk ck, .bool sk', .slice Bk mk dk]) q 50) := hide (HRAW.out.later HL.out)
      have HD8 : Hid (Later wr wr.drew) := hide (Later.refl wr).drew
      have HT1 : Hid (∀ w', Later wr.drew w' → w'.cell? ⟨gr, 0, none⟩ = some (.slice (some ⟨g, 0, none⟩) m c) ∧ w'.cell? ⟨g, j * 4, none⟩ = some (.bool e.s) ∧ w'.cell? ⟨g, j * 4 + 1, none⟩ = some (.slice e.A e.n e.c) ∧ w'.cell? ⟨g, j * 4 + 2, none⟩ = some (.bool false) ∧ w'.cell? ⟨g, j * 4 + 3, none⟩ = some (.slice e.A' e.n' e.c') ∧ w'.cell? ⟨w.heap.size, 0, none⟩ = some (.bool sk) ∧ w'.cell? ⟨w.heap.size, 1, none⟩ = some (.slice Ak nk ck) ∧ w'.cell? ⟨w.heap.size, 2, none⟩ = some (.bool sk') ∧ w'.cell? ⟨w.heap.size, 3, none⟩ = some (.slice Bk mk dk)) := hide fun w' hb => ⟨Later.cell hb hq0, Later.cell hb f0, Later.cell hb f1, Later.cell hb f2, Later.cell hb f3, Later.cell hb g0, Later.cell hb g1, Later.cell hb g2, Later.cell hb g3⟩
      obtain ⟨cz, hcz⟩ : ∃ cz, cmpQ e.key q = cz := ⟨_, rfl⟩
      have HCZ := hide hcz
      clear hcz hje hr1
      go_upto_region 7 with fail
      go_region_held3 (fun w' => w'.cell? ⟨gr, 0, none⟩ = some (.slice (some ⟨g, 0, none⟩) m c) ∧ w'.cell? ⟨g, j * 4, none⟩ = some (.bool e.s) ∧ w'.cell? ⟨g, j * 4 + 1, none⟩ = some (.slice e.A e.n e.c) ∧ w'.cell? ⟨g, j * 4 + 2, none⟩ = some (.bool false) ∧ w'.cell? ⟨g, j * 4 + 3, none⟩ = some (.slice e.A' e.n' e.c') ∧ w'.cell? ⟨w.heap.size, 0, none⟩ = some (.bool sk) ∧ w'.cell? ⟨w.heap.size, 1, none⟩ = some (.slice Ak nk ck) ∧ w'.cell? ⟨w.heap.size, 2, none⟩ = some (.bool sk') ∧ w'.cell? ⟨w.heap.size, 3, none⟩ = some (.slice Bk mk dk))
        (first | exact HT1.out _ (Later.refl _) | exact HT1.out _ b1)
        (first
          | ((with_reducible refine (qcmp_calls _ _ _ e.key q 100 50 (RawR.later HE1.out HD8.out) (RawR.later HE2.out HD8.out) (by omega)).mono ?_); rintro e' w1 ⟨rfl, b1⟩; rw [HCZ.out]))
      all_goals
        have HB1 := hide (HD8.out.trans b1)
        have HL1 := hide (HL.out.trans HB1.out)
        have HK51 := hide (ownsRow_later HK5.out HB1.out)
        have HJ61 := hide (ownsRow_later HJ6.out HB1.out)
        have hs1 : M.length ≤ 1000 := by omega
        have hb3 : (0 : Int) ≤ (j : Int) - (M.length : Int) := by omega
        have hb4 : (j : Int) - (M.length : Int) ≤ 1000 := by omega
        clear b1 hq0 hq1 f0 f1 f2 f3 g0 g1 g2 g3
        by_cases hlt : 0 < cz
        · have HM1 : Hid (M = notAbove q (L.take (j + 1))) := hide (by rw [notAbove_snoc HJE.out, ← HM.out, if_pos (cmp_pos HCZ.out hlt), List.append_nil])
          go_wp2_with fail
          exact ⟨⟨j + 1, M, A5, A6, n5, c5, n6, c6, by omega, rfl, rfl, by congr 1; omega, by go_num, HM1, HK51, HJ61, HL1⟩, by simp [intOf]; omega⟩
        · have HM1 : Hid (M ++ [e] = notAbove q (L.take (j + 1))) := hide (by rw [notAbove_snoc HJE.out, ← HM.out, if_neg (fun h => cmp_npos HCZ.out hlt h)])
          have HQ1 := hide (HQR.out.later HB1.out)
          have hq0 := HQ1.out.row.cell (i := 0) rfl
          have hq1 := HQ1.out.row.cell (i := 1) rfl
          obtain ⟨f0, f1, f2, f3⟩ := HQ1.out.kcell HJE.out
          have f4 := HQ1.out.jcell HJE.out
          have hgl : gr < w1.heap.size := HQ1.out.row.lt
          have hgl2 : g < w1.heap.size := World.block_lt_of_cell? _ _ f0
          have hgl3 : h < w1.heap.size := World.block_lt_of_cell? _ _ f4
          have HSZ : Hid (W0.heap.size ≤ w1.heap.size) := hide HL1.out.size
          have hl2 : M.length + [e].length ≤ 1000000 := by simp; omega
          have HOK : Hid (w1.heap.size ≤ w1.heap.size) := hide (Nat.le_refl _)
          have HROWE : Hid (∀ j u, ([e].flatMap kf)[j]? = some u → (w1.alloc (Obj.cells #[Value.bool e.s, Value.slice e.A e.n e.c, Value.bool false, Value.slice e.A' e.n' e.c'] 35)).cell? ⟨w1.heap.size, 0 + j, none⟩ = some u) := hide fun j u hj => by rw [Nat.zero_add]; exact (Row.new w1 35 [.bool e.s, .slice e.A e.n e.c, .bool false, .slice e.A' e.n' e.c']).cell hj
          have HK52 : Hid (∀ o, (w1.alloc o).ownsRow W0.heap.size 35 4 (.slice A5 n5 c5) M.length (M.flatMap kf)) := hide fun o => ownsRow_later HK51.out ((Later.refl w1).alloc o)
          have HBS : Hid (∀ o, W0.heap.size ≤ (w1.alloc o).heap.size) := hide fun o => by rw [World.size_alloc]; have := HSZ.out; omega
          have hap := own_apart HK51.out HJ61.out (by decide)
          have HAP := hide hap
          clear hap
          go_wp2_with (first
            | (at_builtin; refine wpList_append_k rfl _ _ rfl _ M [e] rfl (HBS.out _) (HK52.out _) w1.heap.size 0 1 1 rfl rfl HROWE.out hl2 ?_; intro v9 w9 k1 k2 k3; obtain ⟨A9, n9, c9, rfl, -⟩ := own_form k1; have hb9 : Later w1 (w1.alloc (Obj.cells #[Value.bool e.s, Value.slice e.A e.n e.c, Value.bool false, Value.slice e.A' e.n' e.c'] 35)) := (Later.refl w1).alloc _; have HK9 := hide k1; have HB9 : Hid (Later W0 w9) := hide (Later.grown (HL1.out.trans hb9) k2 (fun k hk => (World.ownsRow.lt HK51.out k hk).1)); have HJ90 : Hid (w9.ownsRow W0.heap.size 3 1 (.slice A6 n6 c6) M.length (M.flatMap jf)) := hide (ownsRow_grown (ownsRow_later HJ61.out hb9) k2 (fun k hk e => HAP.out k e.symm hk.symm)); have HJ9 : Hid (∀ o, (w9.alloc o).ownsRow W0.heap.size 3 1 (.slice A6 n6 c6) M.length (M.flatMap jf)) := hide (fun o => ownsRow_later HJ90.out ((Later.refl w9).alloc o)); have HQ9 := hide (HQ.out.later HB9.out); have q91 := HQ9.out.row.cell (i := 1) rfl; have f94 := HQ9.out.jcell HJE.out; have hq9l := HQ9.out.row.lt; have hh9l := World.block_lt_of_cell? _ _ f94; have HBS9 : Hid (∀ o, W0.heap.size ≤ (w9.alloc o).heap.size) := hide (fun o => by rw [World.size_alloc]; have := HB9.out.size; omega); have HROW9 : Hid (∀ j u, ([e].flatMap jf)[j]? = some u → (w9.alloc (Obj.cells #[.int .i64 e.id] 3)).cell? ⟨w9.heap.size, 0 + j, none⟩ = some u) := hide (fun j u hj => by rw [Nat.zero_add]; exact (Row.new w9 3 [.int .i64 e.id]).cell hj); clear k1 k2 k3 hb9)
            | (at_builtin; refine wpList_append_j rfl _ _ rfl _ M [e] rfl (HBS9.out _) (HJ9.out _) w9.heap.size 0 1 1 rfl rfl HROW9.out hl2 ?_; intro v10 w10 k1 k2 k3; obtain ⟨A10, n10, c10, rfl, -⟩ := own_form k1; have HJ10 := hide k1; have hb10 : Later w9 (w9.alloc (Obj.cells #[.int .i64 e.id] 3)) := (Later.refl w9).alloc _; have HB10 : Hid (Later W0 w10) := hide (Later.grown (HB9.out.trans hb10) k2 (fun k hk => (World.ownsRow.lt HJ90.out k hk).1)); have HK10 : Hid (w10.ownsRow W0.heap.size 35 4 (.slice A9 n9 c9) (M ++ [e]).length ((M ++ [e]).flatMap kf)) := hide (ownsRow_grown (ownsRow_later HK9.out hb10) k2 (fun k hk e => own_apart HK9.out HJ90.out (by decide) k hk e)); clear k1 k2 k3 hb10))
          exact ⟨⟨j + 1, M ++ [e], A9, A10, n9, c9, n10, c10, by omega, rfl, rfl, by congr 1; simp; omega, by go_num, HM1, HK10, HJ10, HB10⟩, by simp [intOf]; omega⟩
    · obtain rfl : j = m := by omega
      have hmc1 : M.length ≤ 1000 := by omega
      have hb3 : (0 : Int) ≤ (j : Int) - (M.length : Int) := by omega
      have hq0 := HQR.out.row.cell (i := 0) rfl
      have hf0 := HQR.out.row.frozen 0
      have hf1 := HQR.out.row.frozen 1
      have hgl : gr < wr.heap.size := HQR.out.row.lt
      go_wp2_with fail
      go_ret
      have hM : M = notAbove q L := by rw [HM.out, List.take_of_length_le (by have := HN.out; omega)]
      have hst := HQ.out.setkj HL.out HK5.out HJ6.out (fun e he => by rw [hM] at he; exact (List.mem_filter.1 he).1)
      have hs0 := HB0.out.size
      have hv : (j : Int) - (M.length : Int) = ((L.length : Int) - ((notAbove q L).length : Int)) := by rw [hM, HN.out]
      refine ⟨by rw [← hv]; rfl, fun b => (R b ∧ b < w.heap.size) ∨ W0.heap.size ≤ b, ⟨fun b hb => hb.elim (fun h => .inl h.1) (fun h => .inr (by omega)), HB0.out.tch.step hst.2 (fun b hb => .inl hb.1)⟩, _, _, by rw [← hM]; exact hst.1⟩
end Go.Proofs.Ytbhohnhkephefaa
