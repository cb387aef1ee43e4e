/- Plans: what is there behind each period (both). -/
import Derived.Test.YthncinngkfflgaaGreatQ20
import Derived.Test.YthncinngkfflgaaGreatQ6
set_option linter.unusedVariables false
set_option linter.unusedSimpArgs false
set_option maxRecDepth 100000
namespace Go.Proofs.YthncinngkfflgaaGreat
open Go.RowKit Go.Shelf
attribute [local go_sem ↓] Go.wp_at_zero Go.wp_at_succ

theorem info_i1 : (Tryz.prog.info? 3).map (fun i => (i.zero, i.size, i.bytes)) = some (some (.int .i64 0), 1, 8) := by kernel_rfl
theorem wpList_append_i {w : World} {ops : Array Oper} {rest : List Oper} {o : Oper} {a : Act} {Q : Exit → Act → World → Prop} (hgd : o.guard = none) (s x : Operand) (ho : o.op = .call { callee := .builtin .append, args := #[s, x], argTypes := #[43, 43] })
    {lo : Nat} {v : Value} {l : List Int} {g : Nat} {z : Int} (hs : a.eval s = v) (hown : w.ownsRow lo 3 1 v l.length (l.flatMap iCells)) (hx : a.eval x = .slice (some ⟨g, 0, none⟩) 1 1) (hrow : Row w g 3 [.int .i64 z]) (hlen : l.length ≤ 3000000000) (hbase : lo ≤ w.heap.size)
    (h : ∀ v' w', w'.ownsRow lo 3 1 v' (l ++ [z]).length ((l ++ [z]).flatMap iCells) → w.grownBy w' v.ownBlock → (v'.ownBlock = v.ownBlock ∨ v'.ownBlock = some w.heap.size) → wpList Tryz.prog ops Q rest (a.put o.dst v') w') : wpList Tryz.prog ops Q (o :: rest) a w := by
  refine wpList_append_src hgd s x _ ho lo 3 _ 1 8 Tryz.underlying43 info_i1 rfl (by omega) (by omega) v l.length _ hs hown _ 1 [.int .i64 z] hx (Src.row hrow rfl (by simp [Value.oneCell'])) (by omega) hbase ?_
  intro v' w' k1 k2 k3
  refine h v' w' ?_ k2 k3
  rw [List.length_append, List.flatMap_append]; exact k1
theorem iCells_len (z : Int) : (iCells z).length = 1 := rfl
/-- what is there, as a list -/
noncomputable def levL (D : PBook) (row : List Int) (item : Int) (n : Nat) : List Int := (List.range n).map fun k => lev D row item (k+1)
theorem levL_succ (D : PBook) (row : List Int) (item : Int) (n : Nat) : levL D row item (n+1) = levL D row item n ++ [lev D row item (n+1)] := by
  unfold levL; rw [List.range_succ, List.map_append]; rfl
theorem levL_len (D : PBook) (row : List Int) (item : Int) (n : Nat) : (levL D row item n).length = n := by unfold levL; simp
theorem now_fit {D : PBook} (h : MayP D) {k : Nat} (hk : k ≤ 1000) : IntKind.i64.wrap (D.now + (k : Int)) = D.now + k := by
  have h1 := h.head.t0; have h2 := h.head.t40
  exact IntWalk.i64_in _ (by omega)
theorem getD_at {l : List Int} {k : Nat} {z : Int} (h : l[k]? = some z) : l.getD k 0 = z := by rw [List.getD_eq_getElem?_getD, h]; rfl

set_option maxHeartbeats 4000000 in
theorem pllevels_calls (w : World) (A1 A2 A3 A4 : Option Addr) (n1 n2 n3 n4 c1 c2 c3 c4 : Nat) (D : PBook) (h : BookIn w (.slice A1 n1 c1) (.slice A2 n2 c2) (.slice A3 n3 c3) (.slice A4 n4 c4) D) (Ar : Option Addr) (nr cr : Nat) (r : List Int) (hr : Sq 1 iCells w (.slice Ar nr cr) r) (hrl : r.length ≤ 1000) (hrz : ∀ z ∈ r, 0 ≤ z ∧ z ≤ 1000000) (item : Int) (hm : MayP D) :
    Calls Tryz.prog 85 #[.agg #[.slice A1 n1 c1, .int .i64 D.hor, .int .i64 D.now, .slice A2 n2 c2, .slice A3 n3 c3, .slice A4 n4 c4], .slice Ar nr cr, .int .i64 item] w (Ret w fun w' v => On w' (fun b => w.heap.size ≤ b) (fun W => Sq 1 iCells W v (levL D r item r.length))) := by
  have H := hide h; have HR := hide hr; have HRZ := hide hrz; have HM := hide hm
  have LR : Hid (nr = r.length) := hide hr.len_
  have hnr : nr ≤ 1000 := by rw [LR.out]; exact hrl
  have hol := h.ol
  have HNW := hide (fun (k : Nat) (hk : k ≤ 1000) => now_fit hm hk)
  have hn0 := hm.head.t0; have hn40 := hm.head.t40
  clear h hr hrz hm hrl
  obtain ⟨W0, hW0⟩ : ∃ W0, W0 = (w.alloc (Obj.cells #[Value.slice A1 n1 c1, Value.int .i64 D.hor, Value.int .i64 D.now, Value.slice A2 n2 c2, Value.slice A3 n3 c3, Value.slice A4 n4 c4] 47)) := ⟨_, rfl⟩
  obtain ⟨hb0, r0, hsz0⟩ := boxes1 w [.slice A1 n1 c1, .int .i64 D.hor, .int .i64 D.now, .slice A2 n2 c2, .slice A3 n3 c3, .slice A4 n4 c4] 47 hW0
  have B0 := hide hb0; have HW0 := hide hW0
  have R0 := hide r0
  clear hb0 hW0 hsz0 r0
  go_enter Tryz.func85, Tryz.ntmps85
  go_upto_region 1 with fail
  rw [← HW0.out]
  have r_d := R0.out.later (Later.refl W0)
  have d0 := r_d.cell (i := 0) rfl; have d1 := r_d.cell (i := 1) rfl; have d2 := r_d.cell (i := 2) rfl; have d3 := r_d.cell (i := 3) rfl; have d4 := r_d.cell (i := 4) rfl; have d5 := r_d.cell (i := 5) rfl
  clear r_d
  go_wp2_with fail
  ((with_reducible refine (plthere2_calls _ _ _ _ _ _ _ _ _ _ _ _ _ D (H.out.later B0.out) item).mono ?_); rintro e w1 ⟨rfl, b1⟩)
  have HL1 := hide b1
  clear b1 d0 d1 d2 d3 d4 d5
  go_wp2_with fail
  go_loopw [7, 8, 16] (fun s o i wr => ∃ j : Nat, j ≤ nr ∧ s = .int .i64 (lev D r item j) ∧ i = .int .i64 (j : Int) ∧ wr.ownsRow w1.heap.size 3 1 o (levL D r item j).length ((levL D r item j).flatMap iCells) ∧ Later w1 wr) (fun _ _ i _ => (nr - intOf i).toNat)
  case atStart => exact ⟨0, by omega, rfl, rfl, World.ownsRow_nil _ _ _ 1, Later.refl _⟩
  case round =>
    obtain ⟨j, hj, rfl, rfl, hown, hL⟩ := hrel
    have HL := hide hL
    have HOWN := hide hown
    clear hL hown
    have r_d := R0.out.later (HL1.out.trans HL.out)
    have d0 := r_d.cell (i := 0) rfl; have d1 := r_d.cell (i := 1) rfl; have d2 := r_d.cell (i := 2) rfl; have d3 := r_d.cell (i := 3) rfl; have d4 := r_d.cell (i := 4) rfl; have d5 := r_d.cell (i := 5) rfl
    clear r_d
    by_cases hjn : j < nr
    · obtain ⟨z, hz⟩ : ∃ z, r[j]? = some z := ⟨r[j]'(by have := LR.out; omega), List.getElem?_eq_getElem _⟩
      obtain ⟨b3, off3, rfl, x2⟩ := (HR.out.later (B0.out.trans (HL1.out.trans HL.out))).at1 hz
      have hzb := HRZ.out z (List.mem_of_getElem? hz)
      have hj0 : (0 : Int) ≤ (j : Int) := by omega
      have hj1 : (j : Int) < nr := by omega
      have hlb := lev_bound D r item hol HRZ.out j
      have hdb := dueV_bound D item (D.now + j) hol
      have hst : lev D r item (j+1) = lev D r item j + (z - dueV D item (D.now + j)) := by
        show lev D r item j + (r.getD j 0 - dueV D item (D.now + j)) = _
        rw [getD_at hz]
      obtain ⟨s, hs⟩ : ∃ s, lev D r item j = s := ⟨_, rfl⟩
      obtain ⟨dv, hd⟩ : ∃ dv, dueV D item (D.now + j) = dv := ⟨_, rfl⟩
      rw [hs] at hlb ⊢
      rw [hs, hd] at hst
      rw [hd] at hdb
      have hlb2 : -200000000 ≤ s ∧ s ≤ 2000000000 := by omega
      have hw0 := HNW.out j (by omega)
      have HST := hide hst; have HD := hide hd; have HJN : Hid (j < nr) := hide hjn
      clear hst hs hd hlb hz
      go_wp2_with fail
      ((with_reducible refine (pldue_calls _ _ _ _ _ _ _ _ _ _ _ _ _ D (H.out.later (B0.out.trans (HL1.out.trans HL.out))) item (D.now + j)).mono ?_); rintro e w2 ⟨rfl, b2⟩)
      rw [HD.out]
      have HL2 := hide (HL.out.trans b2)
      have HOWN2 := hide (ownsRow_later HOWN.out b2)
      clear b2 d0 d1 d2 d3 d4 d5 x2
      have hw1 : IntKind.i64.wrap (z - dv) = z - dv := IntWalk.i64_in _ (by omega)
      have hw2 : IntKind.i64.wrap (s + (z - dv)) = s + (z - dv) := IntWalk.i64_in _ (by omega)
      rw [← HST.out] at hw2
      go_upto_region 7 with fail
      rw [← HST.out]
      go_wp2_with (at_builtin; refine wpList_append_i rfl _ _ rfl rfl (ownsRow_later HOWN2.out ((Later.refl w2).alloc _)) rfl (Row.new w2 3 [.int .i64 (lev D r item (j+1))]) (by rw [levL_len]; omega) (by have := HL2.out.size; rw [World.size_alloc]; omega) ?_; intro v3 w3 k1 k2 k3)
      refine ⟨⟨j+1, by omega, rfl, by go_num, by rw [levL_succ]; exact k1, (HL2.out.alloc _).grown k2 (fun k hk => (World.ownsRow.lt HOWN2.out k hk).1)⟩, by simp [intOf]; omega⟩
    · have hj1 : ¬ (j : Int) < nr := by omega
      obtain rfl : j = nr := by omega
      have HF := hide (On.sq iCells_len HOWN.out)
      go_wp2_with fail
      go_ret
      refine ⟨_, rfl, ?_, B0.out.trans (HL1.out.trans HL.out)⟩
      rw [LR.out] at HF
      exact HF.out.mono (fun b hb _ => by have := (B0.out.trans HL1.out).size; omega)

set_option maxHeartbeats 4000000 in
theorem rlevel_calls (w : World) (A1 A2 A3 A4 : Option Addr) (n1 n2 n3 n4 c1 c2 c3 c4 : Nat) (D : PBook) (h : BookIn w (.slice A1 n1 c1) (.slice A2 n2 c2) (.slice A3 n3 c3) (.slice A4 n4 c4) D) (Aq : Option Addr) (nq cq : Nat) (t : List (List Int)) (hq : GridIn w (.slice Aq nq cq) t) (i m : Nat) (r : List Int) (hr : t[i]? = some r) (hrz : ∀ z ∈ r, 0 ≤ z ∧ z ≤ 1000000) (hmr : m < r.length) (hm : MayP D) :
    Calls Tryz.prog 87 #[.agg #[.slice A1 n1 c1, .int .i64 D.hor, .int .i64 D.now, .slice A2 n2 c2, .slice A3 n3 c3, .slice A4 n4 c4], .slice Aq nq cq, .int .i64 (i : Int), .int .i64 (m : Int)] w (RetV w (.int .i64 (lev D r i (m+1)))) := by
  have H := hide h; have HQ := hide hq; have HR := hide hr; have HRZ := hide hrz; have HM := hide hm
  have hqn := hq.lenq
  have hil := (List.getElem?_eq_some_iff.1 hr).1
  have hin : i < nq := by omega
  have hnq : nq ≤ 1000 := by have := hq.len; omega
  have hrl := hq.lens r (List.mem_of_getElem? hr)
  have hol := h.ol
  have HNW := hide (fun (k : Nat) (hk : k ≤ 1000) => now_fit hm hk)
  have hn0 := hm.head.t0; have hn40 := hm.head.t40
  have hi0 : (0 : Int) ≤ (i : Int) := by omega
  have hi1 : (i : Int) < nq := by omega
  have hi2 : ((i : Int)).toNat = i := by omega
  have hm1000 : m < 1000 := by omega
  have HMR : Hid (m < r.length) := hide hmr
  clear h hq hr hrz hm hqn hil hmr
  obtain ⟨W0, hW0⟩ : ∃ W0, W0 = (w.alloc (Obj.cells #[Value.slice A1 n1 c1, Value.int .i64 D.hor, Value.int .i64 D.now, Value.slice A2 n2 c2, Value.slice A3 n3 c3, Value.slice A4 n4 c4] 47)) := ⟨_, rfl⟩
  obtain ⟨hb0, r0, hsz0⟩ := boxes1 w [.slice A1 n1 c1, .int .i64 D.hor, .int .i64 D.now, .slice A2 n2 c2, .slice A3 n3 c3, .slice A4 n4 c4] 47 hW0
  have B0 := hide hb0; have HW0 := hide hW0
  have R0 := hide r0
  clear hb0 hW0 hsz0 r0
  go_enter Tryz.func87, Tryz.ntmps87
  go_upto_region 1 with fail
  rw [← HW0.out]
  have r_d := R0.out.later (Later.refl W0)
  have d0 := r_d.cell (i := 0) rfl; have d1 := r_d.cell (i := 1) rfl; have d2 := r_d.cell (i := 2) rfl; have d3 := r_d.cell (i := 3) rfl; have d4 := r_d.cell (i := 4) rfl; have d5 := r_d.cell (i := 5) rfl
  clear r_d
  go_wp2_with fail
  ((with_reducible refine (rthere_calls _ _ _ _ _ _ _ _ _ _ _ _ _ D (H.out.later B0.out) i).mono ?_); rintro e w1 ⟨rfl, b1⟩)
  have HL1 := hide b1
  clear b1 d0 d1 d2 d3 d4 d5
  go_wp2_with fail
  go_loopw [9, 10] (fun s iv wr => ∃ k : Nat, k ≤ m + 1 ∧ s = .int .i64 (lev D r i k) ∧ iv = .int .i64 (k : Int) ∧ Later w1 wr) (fun _ iv _ => (m + 1 - intOf iv).toNat)
  case atStart => exact ⟨0, by omega, rfl, rfl, Later.refl _⟩
  case round =>
    obtain ⟨k, hk, rfl, rfl, hL⟩ := hrel
    have HL := hide hL
    clear hL
    by_cases hkm : k ≤ m
    · obtain ⟨z, hz⟩ : ∃ z, r[k]? = some z := ⟨r[k]'(by have := HMR.out; omega), List.getElem?_eq_getElem _⟩
      obtain ⟨b1, off1, Ar, nr, cr, rfl, x1, hrow⟩ := (HQ.out.later (B0.out.trans (HL1.out.trans HL.out.drew))).grid.at_ HR.out
      have hkr : k < nr := by have := hrow.len_; have := HMR.out; omega
      have hnr9 : nr ≤ 1000 := by have := hrow.len_; omega
      obtain ⟨b3, off3, rfl, x2⟩ := hrow.at1 hz
      have hzb := HRZ.out z (List.mem_of_getElem? hz)
      have hk0 : (0 : Int) ≤ (k : Int) := by omega
      have hk1 : (k : Int) < nr := by omega
      have hk2 : ((k : Int)).toNat = k := by omega
      have hk3 : (k : Int) ≤ m := by omega
      have t1 : decide ((k : Int) ≤ m) = true := by simpa using hk3
      have hlb := lev_bound D r i hol HRZ.out k
      have hdb := dueV_bound D i (D.now + k) hol
      have hst : lev D r i (k+1) = lev D r i k + z - dueV D i (D.now + k) := by
        show lev D r i k + (r.getD k 0 - dueV D i (D.now + k)) = _
        rw [getD_at hz]; omega
      obtain ⟨s, hs⟩ : ∃ s, lev D r i k = s := ⟨_, rfl⟩
      obtain ⟨dv, hd⟩ : ∃ dv, dueV D i (D.now + k) = dv := ⟨_, rfl⟩
      rw [hs] at hlb ⊢
      rw [hs, hd] at hst
      rw [hd] at hdb
      have hlb2 : -200000000 ≤ s ∧ s ≤ 2000000000 := by omega
      have hw0 := HNW.out k (by omega)
      have hw1 : IntKind.i64.wrap (s + z) = s + z := IntWalk.i64_in _ (by omega)
      have hw2 : IntKind.i64.wrap (s + z - dv) = s + z - dv := IntWalk.i64_in _ (by omega)
      have HST := hide hst; have HD := hide hd
      clear hst hs hd hlb hz hrow
      have hrx := R0.out.later (HL1.out.trans HL.out).drew
      have HT1 : Hid (∀ w', Later wr.drew w' → w'.cell? ⟨w.heap.size, 0, none⟩ = some (.slice A1 n1 c1) ∧ w'.cell? ⟨w.heap.size, 1, none⟩ = some (.int .i64 D.hor) ∧ w'.cell? ⟨w.heap.size, 2, none⟩ = some (.int .i64 D.now) ∧ w'.cell? ⟨w.heap.size, 3, none⟩ = some (.slice A2 n2 c2) ∧ w'.cell? ⟨w.heap.size, 4, none⟩ = some (.slice A3 n3 c3) ∧ w'.cell? ⟨w.heap.size, 5, none⟩ = some (.slice A4 n4 c4) ∧ w'.cell? ⟨b1, off1 + i, none⟩ = some (.slice (some ⟨b3, off3, none⟩) nr cr) ∧ w'.cell? ⟨b3, off3 + k, none⟩ = some (.int .i64 z)) := hide fun w' hb => ⟨(hrx.later hb).cell rfl, (hrx.later hb).cell rfl, (hrx.later hb).cell rfl, (hrx.later hb).cell rfl, (hrx.later hb).cell rfl, (hrx.later hb).cell rfl, Later.cell hb x1, Later.cell hb x2⟩
      clear hrx x1 x2
      have hmx : Tryz.prog.follows .mixedOrders = true := by kernel_rfl
      go_upto_region 5 with fail
      refine wp_region_N (fun w' => w'.cell? ⟨w.heap.size, 0, none⟩ = some (.slice A1 n1 c1) ∧ w'.cell? ⟨w.heap.size, 1, none⟩ = some (.int .i64 D.hor) ∧ w'.cell? ⟨w.heap.size, 2, none⟩ = some (.int .i64 D.now) ∧ w'.cell? ⟨w.heap.size, 3, none⟩ = some (.slice A2 n2 c2) ∧ w'.cell? ⟨w.heap.size, 4, none⟩ = some (.slice A3 n3 c3) ∧ w'.cell? ⟨w.heap.size, 5, none⟩ = some (.slice A4 n4 c4) ∧ w'.cell? ⟨b1, off1 + i, none⟩ = some (.slice (some ⟨b3, off3, none⟩) nr cr) ∧ w'.cell? ⟨b3, off3 + k, none⟩ = some (.int .i64 z)) [] hmx (HT1.out _ (Later.refl _)) (fun hHeld => ?_)
      refine wpAnyN_takeD (some 19) (by rfl) (i := 0) (oi := _) (v := ?_) rfl (by kernel_rfl) (by kernel_rfl) (by kernel_rfl) (by kernel_rfl) (fun _ _ _ h => h) (Or.inl ⟨by rfl, ?_⟩) (by assumption) ?_
      rotate_left
      · intro w hSw; (try dsimp only at hSw); go_simp
        first | done | with_reducible rfl
      try simp only [Act.put, List.setIfInBounds_toArray, List.set_cons_zero, List.set_cons_succ]
      refine wpAnyN_takeD (some 20) (by rfl) (i := 1) (oi := _) (v := ?_) rfl (by kernel_rfl) (by kernel_rfl) (by kernel_rfl) (by kernel_rfl) (fun _ _ _ h => h) (Or.inl ⟨by rfl, ?_⟩) (by assumption) ?_
      rotate_left
      · intro w hSw; (try dsimp only at hSw); go_simp
        first | done | with_reducible rfl
      try simp only [Act.put, List.setIfInBounds_toArray, List.set_cons_zero, List.set_cons_succ]
      refine wpAnyN_takeD (some 21) (by rfl) (i := 2) (oi := _) (v := ?_) rfl (by kernel_rfl) (by kernel_rfl) (by kernel_rfl) (by kernel_rfl) (fun _ _ _ h => h) (Or.inl ⟨by rfl, ?_⟩) (by assumption) ?_
      rotate_left
      · intro w hSw; (try dsimp only at hSw); go_simp
        first | done | with_reducible rfl
      try simp only [Act.put, List.setIfInBounds_toArray, List.set_cons_zero, List.set_cons_succ]
      refine wpAnyN_takeD (some 22) (by rfl) (i := 3) (oi := _) (v := ?_) rfl (by kernel_rfl) (by kernel_rfl) (by kernel_rfl) (by kernel_rfl) (fun _ _ _ h => h) (Or.inl ⟨by rfl, ?_⟩) (by assumption) ?_
      rotate_left
      · intro w hSw; (try dsimp only at hSw); go_simp
        first | done | with_reducible rfl
      try simp only [Act.put, List.setIfInBounds_toArray, List.set_cons_zero, List.set_cons_succ]
      refine wpAnyN_takeD (some 23) (by rfl) (i := 4) (oi := _) (v := ?_) rfl (by kernel_rfl) (by kernel_rfl) (by kernel_rfl) (by kernel_rfl) (fun _ _ _ h => h) (Or.inl ⟨by rfl, ?_⟩) (by assumption) ?_
      rotate_left
      · intro w hSw; (try dsimp only at hSw); go_simp
        first | done | with_reducible rfl
      try simp only [Act.put, List.setIfInBounds_toArray, List.set_cons_zero, List.set_cons_succ]
      refine wpAnyN_takeD (some 24) (by rfl) (i := 5) (oi := _) (v := ?_) rfl (by kernel_rfl) (by kernel_rfl) (by kernel_rfl) (by kernel_rfl) (fun _ _ _ h => h) (Or.inl ⟨by rfl, ?_⟩) (by assumption) ?_
      rotate_left
      · intro w hSw; (try dsimp only at hSw); go_simp
        first | done | with_reducible rfl
      try simp only [Act.put, List.setIfInBounds_toArray, List.set_cons_zero, List.set_cons_succ]
      refine wpAnyN_takeD (some 25) (by rfl) (i := 6) (oi := _) (v := ?_) rfl (by kernel_rfl) (by kernel_rfl) (by kernel_rfl) (by kernel_rfl) (fun _ _ _ h => h) (Or.inl ⟨by rfl, ?_⟩) (by assumption) ?_
      rotate_left
      · intro w hSw; (try dsimp only at hSw); go_simp
        first | done | with_reducible rfl
      try simp only [Act.put, List.setIfInBounds_toArray, List.set_cons_zero, List.set_cons_succ]
      refine wpAnyN_takeD (some 26) (by rfl) (i := 7) (oi := _) (v := ?_) rfl (by kernel_rfl) (by kernel_rfl) (by kernel_rfl) (by kernel_rfl) (fun _ _ _ h => h) (Or.inl ⟨by rfl, ?_⟩) (by assumption) ?_
      rotate_left
      · intro w hSw; (try dsimp only at hSw); go_simp
        first | done | with_reducible rfl
      try simp only [Act.put, List.setIfInBounds_toArray, List.set_cons_zero, List.set_cons_succ]
      refine wpAnyN_takeD (some 27) (by rfl) (i := 8) (oi := _) (v := ?_) rfl (by kernel_rfl) (by kernel_rfl) (by kernel_rfl) (by kernel_rfl) (fun _ _ _ h => h) (Or.inl ⟨by rfl, ?_⟩) (by assumption) ?_
      rotate_left
      · intro w hSw; (try dsimp only at hSw); go_simp
        first | done | with_reducible rfl
      try simp only [Act.put, List.setIfInBounds_toArray, List.set_cons_zero, List.set_cons_succ]
      refine wpAnyN_takeD (some 28) (by rfl) (i := 9) (oi := _) (v := ?_) rfl (by kernel_rfl) (by kernel_rfl) (by kernel_rfl) (by kernel_rfl) (fun _ _ _ h => h) (Or.inl ⟨by rfl, ?_⟩) (by assumption) ?_
      rotate_left
      · intro w hSw; (try dsimp only at hSw); go_simp
        first | done | with_reducible rfl
      try simp only [Act.put, List.setIfInBounds_toArray, List.set_cons_zero, List.set_cons_succ]
      refine wpAnyN_takeD (some 29) (by rfl) (i := 10) (oi := _) (v := ?_) rfl (by kernel_rfl) (by kernel_rfl) (by kernel_rfl) (by kernel_rfl) (fun _ _ _ h => h) (Or.inl ⟨by rfl, ?_⟩) (by assumption) ?_
      rotate_left
      · intro w hSw; (try dsimp only at hSw); go_simp
        first | done | with_reducible rfl
      try simp only [Act.put, List.setIfInBounds_toArray, List.set_cons_zero, List.set_cons_succ]
      refine wpAnyN_takeD (some 30) (by rfl) (i := 11) (oi := _) (v := ?_) rfl (by kernel_rfl) (by kernel_rfl) (by kernel_rfl) (by kernel_rfl) (fun _ _ _ h => h) (Or.inl ⟨by rfl, ?_⟩) (by assumption) ?_
      rotate_left
      · intro w hSw; (try dsimp only at hSw); go_simp
        first | done | with_reducible rfl
      try simp only [Act.put, List.setIfInBounds_toArray, List.set_cons_zero, List.set_cons_succ]
      refine wpAnyN_takeD (some 31) (by rfl) (i := 12) (oi := _) (v := ?_) rfl (by kernel_rfl) (by kernel_rfl) (by kernel_rfl) (by kernel_rfl) (fun _ _ _ h => h) (Or.inl ⟨by rfl, ?_⟩) (by assumption) ?_
      rotate_left
      · intro w hSw; (try dsimp only at hSw); go_simp
        first | done | with_reducible rfl
      try simp only [Act.put, List.setIfInBounds_toArray, List.set_cons_zero, List.set_cons_succ]
      refine wpAnyN_takeD (some 32) (by rfl) (i := 13) (oi := _) (v := ?_) rfl (by kernel_rfl) (by kernel_rfl) (by kernel_rfl) (by kernel_rfl) (fun _ _ _ h => h) (Or.inl ⟨by rfl, ?_⟩) (by assumption) ?_
      rotate_left
      · intro w hSw; (try dsimp only at hSw); go_simp
        first | done | with_reducible rfl
      try simp only [Act.put, List.setIfInBounds_toArray, List.set_cons_zero, List.set_cons_succ]
      refine wpAnyN_takeD (some 33) (by rfl) (i := 14) (oi := _) (v := ?_) rfl (by kernel_rfl) (by kernel_rfl) (by kernel_rfl) (by kernel_rfl) (fun _ _ _ h => h) (Or.inl ⟨by rfl, ?_⟩) (by assumption) ?_
      rotate_left
      · intro w hSw; (try dsimp only at hSw); go_simp
        first | done | with_reducible rfl
      try simp only [Act.put, List.setIfInBounds_toArray, List.set_cons_zero, List.set_cons_succ]
      refine wpAnyN_ready (rs := [15]) (by kernel_rfl) (by simp) ?_
      refine AllReadyN.held rfl (by rfl) (fun K hK => ?_) AllReadyN.nil
      go_simp
      refine (rdue_calls _ _ _ _ _ _ _ _ _ _ _ _ _ D (H.out.later (B0.out.trans (HL1.out.trans HL.out.drew))) i (D.now + k)).mono ?_
      rintro e w2 ⟨rfl, b2⟩
      rw [HD.out]
      refine hK.out _ _ ?_ (fun hHeld => ?_)
      · exact HT1.out _ b2
      clear hK K
      try simp only [Act.put, List.setIfInBounds_toArray, List.set_cons_zero, List.set_cons_succ]
      refine wpAnyN_takeD (some 35) (by rfl) (i := 16) (oi := _) (v := ?_) rfl (by kernel_rfl) (by kernel_rfl) (by kernel_rfl) (by kernel_rfl) (fun _ _ _ h => h) (Or.inl ⟨by rfl, ?_⟩) (by assumption) ?_
      rotate_left
      · intro w hSw; (try dsimp only at hSw); go_simp
        first | done | with_reducible rfl
      try simp only [Act.put, List.setIfInBounds_toArray, List.set_cons_zero, List.set_cons_succ]
      refine wpAnyN_takeD (some 9) (by rfl) (i := 17) (oi := _) (v := ?_) rfl (by kernel_rfl) (by kernel_rfl) (by kernel_rfl) (by kernel_rfl) (fun _ _ _ h => h) (Or.inl ⟨by rfl, ?_⟩) (by assumption) ?_
      rotate_left
      · intro w hSw; (try dsimp only at hSw); go_simp
        first | done | with_reducible rfl
      try simp only [Act.put, List.setIfInBounds_toArray, List.set_cons_zero, List.set_cons_succ]
      refine wpAnyN_done (by kernel_rfl) ?_ _
      clear hHeld
      have HL2 := hide (HL.out.drew.trans b2)
      clear b2
      rw [← HST.out]
      go_wp2_with fail
      exact ⟨⟨k+1, by omega, rfl, by go_num, HL2.out⟩, by simp [intOf]; omega⟩
    · have hk3 : ¬ (k : Int) ≤ m := by omega
      have t1 : decide ((k : Int) ≤ m) = false := by simpa using hk3
      obtain rfl : k = m + 1 := by omega
      go_wp2_with fail
      go_ret
      exact ⟨rfl, B0.out.trans (HL1.out.trans HL.out)⟩
end Go.Proofs.YthncinngkfflgaaGreat

/- Plans: which may be, period by period (the program). -/
set_option linter.unusedVariables false
set_option linter.unusedSimpArgs false
set_option maxRecDepth 100000
namespace Go.Proofs.YthncinngkfflgaaGreat
open Go.RowKit Go.Shelf
attribute [local go_sem ↓] Go.wp_at_zero Go.wp_at_succ

def qAt (t : List (List Int)) (i k : Nat) : Int := (t.getD i []).getD k 0
noncomputable def fixOk (D : PBook) (t : List (List Int)) (k i : Nat) : Prop := ∀ n, fixedV D i (D.now + k) = some n → n = qAt t i k
def colSum (t : List (List Int)) (k : Nat) : Nat → Int
  | 0 => 0
  | m + 1 => colSum t k m + qAt t m k
noncomputable def freeB (D : PBook) (k : Nat) : Nat → Bool
  | 0 => false
  | m + 1 => freeB D k m || (fixedV D m (D.now + k)).isNone
def periodP (D : PBook) (t : List (List Int)) (k : Nat) : Prop := (∀ i < t.length, fixOk D t k i) ∧ (freeB D k t.length = true → colSum t k t.length ≤ capV D (D.now + k))
structure AllowedP (D : PBook) (t : List (List Int)) : Prop where
  shape : ShapeP D t
  periods : ∀ k : Nat, (k : Int) < D.hor → periodP D t k
  levels : ∀ (i : Nat) r, t[i]? = some r → 0 ≤ lev D r i D.hor.toNat
open Classical in
noncomputable def periodB (D : PBook) (t : List (List Int)) (k : Nat) : Bool := decide (periodP D t k)
open Classical in
noncomputable def allowedB (D : PBook) (t : List (List Int)) : Bool := decide (AllowedP D t)
theorem periodB_iff {D : PBook} {t : List (List Int)} {k : Nat} : periodB D t k = true ↔ periodP D t k := by unfold periodB; simp
theorem allowedB_iff {D : PBook} {t : List (List Int)} : allowedB D t = true ↔ AllowedP D t := by unfold allowedB; simp
theorem qAt_at {t : List (List Int)} {i k : Nat} {r : List Int} {z : Int} (h : t[i]? = some r) (h2 : r[k]? = some z) : qAt t i k = z := by
  unfold qAt; rw [show t.getD i [] = r by rw [List.getD_eq_getElem?_getD, h]; rfl]; exact getD_at h2
theorem colSum_bound {D : PBook} {t : List (List Int)} (h : ShapeP D t) (k m : Nat) (hm : m ≤ t.length) : 0 ≤ colSum t k m ∧ colSum t k m ≤ 1000000 * (m : Int) := by
  induction m with
  | zero => simp [colSum]
  | succ m ih =>
    have h1 := ih (by omega)
    obtain ⟨r, hr⟩ : ∃ r, t[m]? = some r := ⟨t[m], List.getElem?_eq_getElem (by omega)⟩
    have h2 : 0 ≤ qAt t m k ∧ qAt t m k ≤ 1000000 := by
      unfold qAt; rw [show t.getD m [] = r by rw [List.getD_eq_getElem?_getD, hr]; rfl]
      rw [List.getD_eq_getElem?_getD]
      cases hz : r[k]? with
      | none => simp
      | some z => exact (h.rows r (List.mem_of_getElem? hr)).2 z (List.mem_of_getElem? hz)
    have : colSum t k (m+1) = colSum t k m + qAt t m k := rfl
    rw [this]; omega

set_option maxHeartbeats 4000000 in
theorem plperiod_calls (w : World) (A1 A2 A3 A4 : Option Addr) (n1 n2 n3 n4 c1 c2 c3 c4 : Nat) (D : PBook) (h : BookIn w (.slice A1 n1 c1) (.slice A2 n2 c2) (.slice A3 n3 c3) (.slice A4 n4 c4) D) (Aq : Option Addr) (nq cq : Nat) (t : List (List Int)) (hq : GridIn w (.slice Aq nq cq) t) (k : Nat) (hs : ShapeP D t) (hk : (k : Int) < D.hor) (u : Bool) (hu : periodB D t k = u) :
    Calls Tryz.prog 90 #[.agg #[.slice A1 n1 c1, .int .i64 D.hor, .int .i64 D.now, .slice A2 n2 c2, .slice A3 n3 c3, .slice A4 n4 c4], .slice Aq nq cq, .int .i64 (k : Int)] w (RetV w (.bool u)) := by
  have H := hide h; have HU := hide hu; have HQ := hide hq; have HS := hide hs
  have LQ := hide hq.lenq
  have hh := hs.may.head
  have h1 := hh.h1; have h6 := hh.h6; have hn0 := hh.t0; have hn40 := hh.t40; have hn1' := hh.n1; have hn3' := hh.n3
  have hk6 : k < 6 := by
    rcases (by omega : D.items.length = 1 ∨ D.items.length = 2 ∨ D.items.length = 3) with e | e | e <;> rw [e] at h6 <;> omega
  have hnq : nq ≤ 3 := by rw [LQ.out, hs.len]; exact hn3'
  have hw0 : IntKind.i64.wrap (D.now + (k : Int)) = D.now + k := IntWalk.i64_in _ (by omega)
  have HKH : Hid ((k : Int) < D.hor) := hide hk
  have HW0 := hide hw0
  clear h hu hq hs hh h1 h6 hn1' hn3' hk hw0
  obtain ⟨W0, hW0⟩ : ∃ W0, W0 = (w.alloc (Obj.cells #[Value.slice A1 n1 c1, Value.int .i64 D.hor, Value.int .i64 D.now, Value.slice A2 n2 c2, Value.slice A3 n3 c3, Value.slice A4 n4 c4] 47)) := ⟨_, rfl⟩
  obtain ⟨hb0, r0, hsz0⟩ := boxes1 w [.slice A1 n1 c1, .int .i64 D.hor, .int .i64 D.now, .slice A2 n2 c2, .slice A3 n3 c3, .slice A4 n4 c4] 47 hW0
  have B0 := hide hb0; have HW0' := hide hW0
  have R0 := hide r0
  clear hb0 hW0 hsz0 r0
  go_enter Tryz.func90, Tryz.ntmps90
  go_upto_region 1 with fail
  rw [← HW0'.out]
  have r_d := R0.out.later (Later.refl W0)
  have d0 := r_d.cell (i := 0) rfl; have d1 := r_d.cell (i := 1) rfl; have d2 := r_d.cell (i := 2) rfl; have d3 := r_d.cell (i := 3) rfl; have d4 := r_d.cell (i := 4) rfl; have d5 := r_d.cell (i := 5) rfl
  clear r_d
  go_wp2_with fail
  clear d0 d1 d2 d3 d4 d5
  go_loopw [7, 8, 14] (fun s f iv wr => ∃ j : Nat, j ≤ nq ∧ s = .int .i64 (colSum t k j) ∧ f = .bool (freeB D k j) ∧ iv = .int .i64 (j : Int) ∧ Hid (∀ i < j, fixOk D t k i) ∧ Later W0 wr) (fun _ _ iv _ => (nq - intOf iv).toNat)
  case atStart => exact ⟨0, by omega, rfl, rfl, rfl, hide (fun i hi => by omega), Later.refl _⟩
  case round =>
    obtain ⟨j, hj, rfl, rfl, rfl, hpre, hL⟩ := hrel
    have HL := hide hL
    clear hL
    have r_d := R0.out.later HL.out
    have d0 := r_d.cell (i := 0) rfl; have d1 := r_d.cell (i := 1) rfl; have d2 := r_d.cell (i := 2) rfl; have d3 := r_d.cell (i := 3) rfl; have d4 := r_d.cell (i := 4) rfl; have d5 := r_d.cell (i := 5) rfl
    clear r_d
    by_cases hjn : j < nq
    · obtain ⟨r, hr⟩ : ∃ r, t[j]? = some r := ⟨t[j]'(by have := LQ.out; omega), List.getElem?_eq_getElem _⟩
      have hro := HS.out.rows r (List.mem_of_getElem? hr)
      obtain ⟨z, hz⟩ : ∃ z, r[k]? = some z := ⟨r[k]'(by have := HKH.out; omega), List.getElem?_eq_getElem _⟩
      have HQZ := hide (qAt_at hr hz)
      have hzb := hro.2 z (List.mem_of_getElem? hz)
      have HR := hide hr; have HZ := hide hz
      have hj0 : (0 : Int) ≤ (j : Int) := by omega
      have hj1 : (j : Int) < nq := by omega
      have hcb := colSum_bound HS.out k j (by have := LQ.out; omega)
      have HST : Hid (colSum t k (j+1) = colSum t k j + z) := hide (by show colSum t k j + qAt t j k = _; rw [HQZ.out])
      have HFR : Hid (freeB D k (j+1) = (freeB D k j || (fixedV D j (D.now + k)).isNone)) := hide rfl
      obtain ⟨fo, hfo⟩ : ∃ f, fixedV D j (D.now + k) = f := ⟨_, rfl⟩
      obtain ⟨s, hs⟩ : ∃ s, colSum t k j = s := ⟨_, rfl⟩
      obtain ⟨f, hf⟩ : ∃ f, freeB D k j = f := ⟨_, rfl⟩
      rw [hs] at HST hcb ⊢
      rw [hf, hfo] at HFR
      rw [hf]
      have hsb : 0 ≤ s ∧ s ≤ 3000000 := by omega
      have HFO := hide hfo
      clear hr hz hro hcb hfo hs hf
      have hw0 := HW0.out
      go_wp2_with fail
      ((with_reducible refine (plfixed_calls _ _ _ _ _ _ _ _ _ _ _ _ _ D (H.out.later (B0.out.trans HL.out)) j (D.now + k)).mono ?_); rintro e w1 ⟨rfl, b1⟩)
      rw [HFO.out]
      have HL1 := hide (HL.out.trans b1)
      clear b1 d0 d1 d2 d3 d4 d5
      obtain ⟨b1, off1, Ar, nr, cr, rfl, x1, hrow⟩ := (HQ.out.later (B0.out.trans HL1.out)).grid.at_ HR.out
      obtain ⟨b3, off3, rfl, x2⟩ := hrow.at1 HZ.out
      have hkr : k < nr := by have := hrow.len_; have h5 := HS.out.rows r (List.mem_of_getElem? HR.out); have := HKH.out; omega
      have hk1 : (k : Int) < nr := by omega
      have hk0 : (0 : Int) ≤ (k : Int) := by omega
      have hw1 : IntKind.i64.wrap (s + z) = s + z := IntWalk.i64_in _ (by omega)
      clear hrow
      cases fo with
      | none =>
        have HFR2 : Hid (freeB D k (j+1) = true) := hide (by rw [HFR.out]; simp)
        have HN : Hid (∀ i < j + 1, fixOk D t k i) := hide (fun i hi => by
          by_cases hij : i < j
          · exact hpre.out i hij
          · obtain rfl : i = j := by omega
            intro n hn; rw [HFO.out] at hn; cases hn)
        cases f <;>
        (go_wp2_with fail
         exact ⟨⟨j+1, by omega, by rw [HST.out], by rw [HFR2.out], by go_num, HN, HL1.out⟩, by simp [intOf]; omega⟩)
      | some n =>
        have HFR2 : Hid (freeB D k (j+1) = f) := hide (by rw [HFR.out]; simp)
        by_cases g : n = z
        · have t1 : (n != z) = false := by simpa using g
          have HN : Hid (∀ i < j + 1, fixOk D t k i) := hide (fun i hi => by
            by_cases hij : i < j
            · exact hpre.out i hij
            · obtain rfl : i = j := by omega
              intro m hm; rw [HFO.out] at hm; injection hm with hm; rw [HQZ.out, ← hm]; exact g)
          clear g
          cases f <;>
          (go_wp2_with fail
           exact ⟨⟨j+1, by omega, by rw [HST.out], by rw [HFR2.out], by go_num, HN, HL1.out⟩, by simp [intOf]; omega⟩)
        · have t1 : (n != z) = true := by simpa using g
          have HF : Hid (u = false) := hide (Bool.eq_false_iff.2 (fun h => by
            have h5 := (periodB_iff.1 (HU.out.trans h)).1 j (by have := LQ.out; omega) n HFO.out
            rw [HQZ.out] at h5; exact g h5))
          clear g
          go_wp2_with fail
          go_ret
          exact ⟨by first | rfl | (rw [HF.out]; rfl), B0.out.trans HL1.out⟩
    · obtain rfl : j = nq := by omega
      have hw0 := HW0.out
      have hj1 : ¬ (j : Int) < j := by omega
      obtain ⟨s, hs⟩ : ∃ s, colSum t k j = s := ⟨_, rfl⟩
      obtain ⟨f, hf⟩ : ∃ f, freeB D k j = f := ⟨_, rfl⟩
      rw [hs, hf]
      have HP : Hid (u = true ↔ (f = true → s ≤ capV D (D.now + k))) := hide (by
        rw [← HU.out, periodB_iff]; unfold periodP
        rw [← LQ.out, hs, hf]
        exact ⟨fun h => h.2, fun h => ⟨hpre.out, h⟩⟩)
      clear hs hf hpre
      cases f with
      | false =>
        have HF : Hid (u = true) := hide (HP.out.2 (fun h => by cases h))
        go_wp2_with fail
        go_ret
        exact ⟨by first | rfl | (rw [HF.out]; rfl), B0.out.trans HL.out⟩
      | true =>
        obtain ⟨cv, hcv⟩ : ∃ cv, capV D (D.now + k) = cv := ⟨_, rfl⟩
        have HCV := hide hcv
        clear hcv
        have HF : Hid (decide (s ≤ cv) = u) := hide (by
          have h5 := HP.out
          rw [HCV.out] at h5
          rw [Bool.eq_iff_iff, h5, decide_eq_true_iff]; simp)
        go_wp2_with fail
        ((with_reducible refine (plcap_calls _ _ _ _ _ _ _ _ _ _ _ _ _ D (H.out.later (B0.out.trans HL.out)) (D.now + k)).mono ?_); rintro e w1 ⟨rfl, b1⟩)
        rw [HCV.out]
        have HL1 := hide (HL.out.trans b1)
        clear b1
        go_wp2_with fail
        go_ret
        exact ⟨by rw [← HF.out]; rfl, B0.out.trans HL1.out⟩

set_option maxHeartbeats 8000000 in
theorem plallowed_calls (w : World) (A1 A2 A3 A4 : Option Addr) (n1 n2 n3 n4 c1 c2 c3 c4 : Nat) (D : PBook) (h : BookIn w (.slice A1 n1 c1) (.slice A2 n2 c2) (.slice A3 n3 c3) (.slice A4 n4 c4) D) (Aq : Option Addr) (nq cq : Nat) (t : List (List Int)) (hq : GridIn w (.slice Aq nq cq) t) (u : Bool) (hu : allowedB D t = u) :
    Calls Tryz.prog 37 #[.agg #[.slice A1 n1 c1, .int .i64 D.hor, .int .i64 D.now, .slice A2 n2 c2, .slice A3 n3 c3, .slice A4 n4 c4], .slice Aq nq cq] w (RetV w (.bool u)) := by
  have H := hide h; have HU := hide hu; have HQ := hide hq
  have LQ := hide hq.lenq
  have hnq : nq ≤ 1000 := by have := hq.lenq; have := hq.len; omega
  have hhf := h.hfit
  unfold IFit at hhf
  obtain ⟨u0, hu0⟩ : ∃ u, shapeB D t = u := ⟨_, rfl⟩
  have HU0 := hide hu0
  clear h hu hq hu0
  obtain ⟨W0, hW0⟩ : ∃ W0, W0 = (w.alloc (Obj.cells #[Value.slice A1 n1 c1, Value.int .i64 D.hor, Value.int .i64 D.now, Value.slice A2 n2 c2, Value.slice A3 n3 c3, Value.slice A4 n4 c4] 47)) := ⟨_, rfl⟩
  obtain ⟨hb0, r0, hsz0⟩ := boxes1 w [.slice A1 n1 c1, .int .i64 D.hor, .int .i64 D.now, .slice A2 n2 c2, .slice A3 n3 c3, .slice A4 n4 c4] 47 hW0
  have B0 := hide hb0; have HW0 := hide hW0
  have R0 := hide r0
  clear hb0 hW0 hsz0 r0
  go_enter Tryz.func37, Tryz.ntmps37
  go_upto_region 1 with fail
  rw [← HW0.out]
  have r_d := R0.out.later (Later.refl W0)
  have d0 := r_d.cell (i := 0) rfl; have d1 := r_d.cell (i := 1) rfl; have d2 := r_d.cell (i := 2) rfl; have d3 := r_d.cell (i := 3) rfl; have d4 := r_d.cell (i := 4) rfl; have d5 := r_d.cell (i := 5) rfl
  clear r_d
  go_wp2_with fail
  ((with_reducible refine (plshape_calls _ _ _ _ _ _ _ _ _ _ _ _ _ D (H.out.later B0.out) _ _ _ t (HQ.out.later B0.out) u0 HU0.out).mono ?_); rintro e w1 ⟨rfl, b1⟩)
  have HL1 := hide b1
  clear b1 d0 d1 d2 d3 d4 d5
  have r_d := R0.out.later HL1.out
  have d0 := r_d.cell (i := 0) rfl; have d1 := r_d.cell (i := 1) rfl; have d2 := r_d.cell (i := 2) rfl; have d3 := r_d.cell (i := 3) rfl; have d4 := r_d.cell (i := 4) rfl; have d5 := r_d.cell (i := 5) rfl
  clear r_d
  cases u0 with
  | false =>
    have HF : Hid (u = false) := hide (Bool.eq_false_iff.2 (fun h => by
      have h5 := shapeB_iff.2 (allowedB_iff.1 (HU.out.trans h)).shape
      rw [HU0.out] at h5; cases h5))
    go_wp2_with fail
    go_ret
    exact ⟨by first | rfl | (rw [HF.out]; rfl), B0.out.trans HL1.out⟩
  | true =>
  have HS := hide (shapeB_iff.1 HU0.out)
  have hh1 := HS.out.may.head.h1
  obtain ⟨hz, hhz⟩ : ∃ m : Nat, (m : Int) = D.hor := ⟨D.hor.toNat, by omega⟩
  have HHZ := hide hhz
  have hz6 : hz ≤ 6 := by
    have h6 := HS.out.may.head.h6; have := HS.out.may.head.n1; have := HS.out.may.head.n3
    rcases (by omega : D.items.length = 1 ∨ D.items.length = 2 ∨ D.items.length = 3) with e | e | e <;> rw [e] at h6 <;> omega
  have hz1 : 1 ≤ hz := by omega
  go_wp2_with fail
  clear d0 d1 d2 d3 d4 d5
  go_loopw [14] (fun i wr => ∃ j : Nat, j ≤ hz ∧ i = .int .i64 (j : Int) ∧ Hid (∀ k < j, periodP D t k) ∧ Later w1 wr) (fun i _ => (hz - intOf i).toNat)
  case atStart => exact ⟨0, by omega, rfl, hide fun i hi => by omega, Later.refl _⟩
  case round =>
    obtain ⟨j, hj, rfl, hpre, hL⟩ := hrel
    have HL := hide hL
    clear hL
    have r_d := R0.out.later (HL1.out.trans HL.out)
    have d0 := r_d.cell (i := 0) rfl; have d1 := r_d.cell (i := 1) rfl; have d2 := r_d.cell (i := 2) rfl; have d3 := r_d.cell (i := 3) rfl; have d4 := r_d.cell (i := 4) rfl; have d5 := r_d.cell (i := 5) rfl
    clear r_d
    by_cases hjn : j < hz
    · have hj1 : (j : Int) < D.hor := by omega
      have t1 : decide ((j : Int) < D.hor) = true := by simpa using hj1
      obtain ⟨u1, hu1⟩ : ∃ u, periodB D t j = u := ⟨_, rfl⟩
      have HU1 := hide hu1
      have HJ1 : Hid ((j : Int) < D.hor) := hide hj1
      clear hu1
      go_wp2_with fail
      ((with_reducible refine (plperiod_calls _ _ _ _ _ _ _ _ _ _ _ _ _ D (H.out.later (B0.out.trans (HL1.out.trans HL.out))) _ _ _ t (HQ.out.later (B0.out.trans (HL1.out.trans HL.out))) j HS.out HJ1.out u1 HU1.out).mono ?_); rintro e w2 ⟨rfl, b2⟩)
      have HL2 := hide (HL.out.trans b2)
      clear b2 d0 d1 d2 d3 d4 d5
      cases u1 with
      | false =>
        have HF : Hid (u = false) := hide (Bool.eq_false_iff.2 (fun h => by
          have h5 := periodB_iff.2 ((allowedB_iff.1 (HU.out.trans h)).periods j HJ1.out)
          rw [HU1.out] at h5; cases h5))
        go_wp2_with fail
        go_ret
        exact ⟨by first | rfl | (rw [HF.out]; rfl), B0.out.trans (HL1.out.trans HL2.out)⟩
      | true =>
        have HN : Hid (∀ k < j + 1, periodP D t k) := hide (fun k hk => by
          by_cases hkj : k < j
          · exact hpre.out k hkj
          · obtain rfl : k = j := by omega
            exact periodB_iff.1 HU1.out)
        go_wp2_with fail
        exact ⟨⟨j+1, by omega, by go_num, HN, HL2.out⟩, by simp [intOf]; omega⟩
    · obtain rfl : j = hz := by omega
      have hj1 : ¬ (j : Int) < D.hor := by omega
      have t1 : decide ((j : Int) < D.hor) = false := by simpa using hj1
      have HPER := hide hpre.out
      clear hpre
      go_wp2_with fail
      clear d0 d1 d2 d3 d4 d5 hj1 t1 hjn hj
      have HZJ : Hid (D.hor.toNat = j) := hide (by omega)
      obtain ⟨hz, rfl⟩ : ∃ hz, hz = j := ⟨_, rfl⟩
      go_loopw [25] (fun i wr => ∃ j : Nat, j ≤ nq ∧ i = .int .i64 (j : Int) ∧ Hid (∀ (i : Nat) r, i < j → t[i]? = some r → 0 ≤ lev D r i D.hor.toNat) ∧ Later w1 wr) (fun i _ => (nq - intOf i).toNat)
      case atStart => exact ⟨0, by omega, rfl, hide fun i r hi => by omega, HL.out⟩
      case round =>
        obtain ⟨j, hj, rfl, hpre2, hLx⟩ := hrel
        have HLX := hide hLx
        clear hLx
        by_cases hjn : j < nq
        · obtain ⟨r, hr⟩ : ∃ r, t[j]? = some r := ⟨t[j]'(by have := LQ.out; omega), List.getElem?_eq_getElem _⟩
          have HR := hide hr
          obtain ⟨b1, off1, Ar, nr, cr, rfl, x1, hrow⟩ := (HQ.out.later (B0.out.trans (HL1.out.trans HLX.out))).grid.at_ hr
          have hj0 : (0 : Int) ≤ (j : Int) := by omega
          have hj1 : (j : Int) < nq := by omega
          have HRL : Hid (r.length = hz) := hide (by have := (HS.out.rows r (List.mem_of_getElem? hr)).1; have := HHZ.out; omega)
          obtain ⟨lv, hlv⟩ : ∃ lv, lev D r j D.hor.toNat = lv := ⟨_, rfl⟩
          have HLV := hide hlv
          have HLAST : Hid ((levL D r j r.length)[hz - 1]? = some lv) := hide (by
            rw [HRL.out]; unfold levL
            rw [List.getElem?_map, List.getElem?_range (by omega), Option.map_some, show hz - 1 + 1 = hz by omega, ← HZJ.out, HLV.out])
          have hw1 : IntKind.i64.wrap (D.hor - 1) = ((hz - 1 : Nat) : Int) := by rw [IntWalk.i64_in _ (by omega)]; omega
          have hw2 : (0 : Int) ≤ ((hz - 1 : Nat) : Int) := by omega
          have hw3 : ((hz - 1 : Nat) : Int) < hz := by omega
          have hw5 : ((hz - 1 : Nat) : Int) < D.hor := by omega
          have hw4 : (((hz - 1 : Nat) : Int)).toNat = hz - 1 := by omega
          clear hr hlv
          obtain ⟨u9, t9⟩ : ∃ u9, decide (lv < 0) = u9 := ⟨_, rfl⟩
          have hrx := R0.out.later (HL1.out.trans HLX.out).drew
          have HT1 : Hid (∀ w', Later wr.drew w' → w'.cell? ⟨w.heap.size, 0, none⟩ = some (.slice A1 n1 c1) ∧ w'.cell? ⟨w.heap.size, 1, none⟩ = some (.int .i64 D.hor) ∧ w'.cell? ⟨w.heap.size, 2, none⟩ = some (.int .i64 D.now) ∧ w'.cell? ⟨w.heap.size, 3, none⟩ = some (.slice A2 n2 c2) ∧ w'.cell? ⟨w.heap.size, 4, none⟩ = some (.slice A3 n3 c3) ∧ w'.cell? ⟨w.heap.size, 5, none⟩ = some (.slice A4 n4 c4)) := hide fun w' hb => ⟨(hrx.later hb).cell rfl, (hrx.later hb).cell rfl, (hrx.later hb).cell rfl, (hrx.later hb).cell rfl, (hrx.later hb).cell rfl, (hrx.later hb).cell rfl⟩
          clear hrx
          have hmx : Tryz.prog.follows .mixedOrders = true := by kernel_rfl
          go_upto_region 12 with fail
          refine wp_region_N (fun w' => w'.cell? ⟨w.heap.size, 0, none⟩ = some (.slice A1 n1 c1) ∧ w'.cell? ⟨w.heap.size, 1, none⟩ = some (.int .i64 D.hor) ∧ w'.cell? ⟨w.heap.size, 2, none⟩ = some (.int .i64 D.now) ∧ w'.cell? ⟨w.heap.size, 3, none⟩ = some (.slice A2 n2 c2) ∧ w'.cell? ⟨w.heap.size, 4, none⟩ = some (.slice A3 n3 c3) ∧ w'.cell? ⟨w.heap.size, 5, none⟩ = some (.slice A4 n4 c4)) [] hmx (HT1.out _ (Later.refl _)) (fun hHeld => ?_)
          refine wpAnyN_takeD (some 30) (by rfl) (i := 0) (oi := _) (v := ?_) rfl (by kernel_rfl) (by kernel_rfl) (by kernel_rfl) (by kernel_rfl) (fun _ _ _ h => h) (Or.inl ⟨by rfl, ?_⟩) (by assumption) ?_
          rotate_left
          · intro w hSw; (try dsimp only at hSw); go_simp
            first | done | with_reducible rfl
          try simp only [Act.put, List.setIfInBounds_toArray, List.set_cons_zero, List.set_cons_succ]
          refine wpAnyN_takeD (some 31) (by rfl) (i := 1) (oi := _) (v := ?_) rfl (by kernel_rfl) (by kernel_rfl) (by kernel_rfl) (by kernel_rfl) (fun _ _ _ h => h) (Or.inl ⟨by rfl, ?_⟩) (by assumption) ?_
          rotate_left
          · intro w hSw; (try dsimp only at hSw); go_simp
            first | done | with_reducible rfl
          try simp only [Act.put, List.setIfInBounds_toArray, List.set_cons_zero, List.set_cons_succ]
          refine wpAnyN_takeD (some 32) (by rfl) (i := 2) (oi := _) (v := ?_) rfl (by kernel_rfl) (by kernel_rfl) (by kernel_rfl) (by kernel_rfl) (fun _ _ _ h => h) (Or.inl ⟨by rfl, ?_⟩) (by assumption) ?_
          rotate_left
          · intro w hSw; (try dsimp only at hSw); go_simp
            first | done | with_reducible rfl
          try simp only [Act.put, List.setIfInBounds_toArray, List.set_cons_zero, List.set_cons_succ]
          refine wpAnyN_takeD (some 34) (by rfl) (i := 4) (oi := _) (v := ?_) rfl (by kernel_rfl) (by kernel_rfl) (by kernel_rfl) (by kernel_rfl) (fun _ _ _ h => h) (Or.inl ⟨by rfl, ?_⟩) (by assumption) ?_
          rotate_left
          · intro w hSw; (try dsimp only at hSw); go_simp
            first | done | with_reducible rfl
          try simp only [Act.put, List.setIfInBounds_toArray, List.set_cons_zero, List.set_cons_succ]
          refine wpAnyN_takeD (some 35) (by rfl) (i := 5) (oi := _) (v := ?_) rfl (by kernel_rfl) (by kernel_rfl) (by kernel_rfl) (by kernel_rfl) (fun _ _ _ h => h) (Or.inl ⟨by rfl, ?_⟩) (by assumption) ?_
          rotate_left
          · intro w hSw; (try dsimp only at hSw); go_simp
            first | done | with_reducible rfl
          try simp only [Act.put, List.setIfInBounds_toArray, List.set_cons_zero, List.set_cons_succ]
          refine wpAnyN_takeD (some 36) (by rfl) (i := 6) (oi := _) (v := ?_) rfl (by kernel_rfl) (by kernel_rfl) (by kernel_rfl) (by kernel_rfl) (fun _ _ _ h => h) (Or.inl ⟨by rfl, ?_⟩) (by assumption) ?_
          rotate_left
          · intro w hSw; (try dsimp only at hSw); go_simp
            first | done | with_reducible rfl
          try simp only [Act.put, List.setIfInBounds_toArray, List.set_cons_zero, List.set_cons_succ]
          refine wpAnyN_ready (rs := [3]) (by kernel_rfl) (by simp) ?_
          refine AllReadyN.held rfl (by rfl) (fun K hK => ?_) AllReadyN.nil
          go_simp
          refine (pllevels_calls _ _ _ _ _ _ _ _ _ _ _ _ _ D (H.out.later (B0.out.trans (HL1.out.trans HLX.out.drew))) _ _ _ r (hrow.later (Later.refl wr).drew) (HQ.out.lens r (List.mem_of_getElem? HR.out)) (HS.out.rows r (List.mem_of_getElem? HR.out)).2 j HS.out.may).mono ?_
          rintro e w2 ⟨v2, rfl, o2, b2⟩
          have o3 := o2.now
          obtain ⟨Al, nl, cl, rfl, hnl, -, -, o4⟩ := o3.form
          rw [levL_len, HRL.out] at hnl
          subst hnl
          obtain ⟨b5, off5, rfl, y1⟩ := o4.at1 (HLAST.out)
          refine hK.out _ _ ?_ (fun hHeld => ?_)
          · exact HT1.out _ b2
          clear hK K
          try simp only [Act.put, List.setIfInBounds_toArray, List.set_cons_zero, List.set_cons_succ]
          refine wpAnyN_takeD (some 37) (by rfl) (i := 7) (oi := _) (v := ?_) rfl (by kernel_rfl) (by kernel_rfl) (by kernel_rfl) (by kernel_rfl) (fun _ _ _ h => h) (Or.inl ⟨by rfl, ?_⟩) (by assumption) ?_
          rotate_left
          · intro w hSw; (try dsimp only at hSw); go_simp
            first | done | with_reducible rfl
          try simp only [Act.put, List.setIfInBounds_toArray, List.set_cons_zero, List.set_cons_succ]
          refine wpAnyN_ready (rs := [8]) (by kernel_rfl) (by simp) ?_
          refine AllReadyN.held rfl (by rfl) (fun K hK => ?_) AllReadyN.nil
          go_simp
          refine hK.out _ _ ?_ (fun hHeld => ?_)
          · exact HT1.out _ b2
          clear hK K
          try simp only [Act.put, List.setIfInBounds_toArray, List.set_cons_zero, List.set_cons_succ]
          refine wpAnyN_takeD (some 39) (by rfl) (i := 9) (oi := _) (v := ?_) rfl (by kernel_rfl) (by kernel_rfl) (by kernel_rfl) (by kernel_rfl) (fun _ _ _ h => h) (Or.inl ⟨by rfl, ?_⟩) (by assumption) ?_
          rotate_left
          · intro w hSw; (try dsimp only at hSw); go_simp
            first | done | with_reducible rfl
          try simp only [Act.put, List.setIfInBounds_toArray, List.set_cons_zero, List.set_cons_succ]
          refine wpAnyN_done (by kernel_rfl) ?_ _
          clear hHeld
          have HL2 := hide (HLX.out.drew.trans b2)
          clear o2 o3 o4 y1 b2
          cases u9 with
          | true =>
            have HF : Hid (u = false) := hide (Bool.eq_false_iff.2 (fun h => by
              have h5 := (allowedB_iff.1 (HU.out.trans h)).levels j r HR.out
              have := HLV.out
              rw [decide_eq_true_iff] at t9; omega))
            go_wp2_with fail
            go_ret
            exact ⟨by first | rfl | (rw [HF.out]; rfl), B0.out.trans (HL1.out.trans HL2.out)⟩
          | false =>
            have HN : Hid (∀ (i : Nat) r, i < j + 1 → t[i]? = some r → 0 ≤ lev D r i D.hor.toNat) := hide (fun i y hi hy => by
              by_cases hij : i < j
              · exact hpre2.out i y hij hy
              · obtain rfl : i = j := by omega
                rw [HR.out] at hy; injection hy with hy
                rw [← hy, HLV.out]
                rw [decide_eq_false_iff_not] at t9; omega)
            go_wp2_with fail
            exact ⟨⟨j+1, by omega, by go_num, HN, HL2.out⟩, by simp [intOf]; omega⟩
        · have HF : Hid (u = true) := hide (by
            rw [← HU.out, allowedB_iff]
            exact ⟨HS.out, fun k hk => HPER.out k (by have := HHZ.out; omega), fun i r hi => hpre2.out i r (by have := (List.getElem?_eq_some_iff.1 hi).1; have := LQ.out; omega) hi⟩)
          have hj1 : ¬ (j : Int) < nq := by omega
          clear hpre2
          go_wp2_with fail
          go_ret
          exact ⟨by first | rfl | (rw [HF.out]; rfl), B0.out.trans (HL1.out.trans HLX.out)⟩
end Go.Proofs.YthncinngkfflgaaGreat

/- Plans: which may be (the reference). -/
set_option linter.unusedVariables false
set_option linter.unusedSimpArgs false
set_option maxRecDepth 100000
namespace Go.Proofs.YthncinngkfflgaaGreat
open Go.RowKit Go.Shelf
attribute [local go_sem ↓] Go.wp_at_zero Go.wp_at_succ

set_option maxHeartbeats 16000000 in
theorem rallowed_calls (w : World) (A1 A2 A3 A4 : Option Addr) (n1 n2 n3 n4 c1 c2 c3 c4 : Nat) (D : PBook) (h : BookIn w (.slice A1 n1 c1) (.slice A2 n2 c2) (.slice A3 n3 c3) (.slice A4 n4 c4) D) (Aq : Option Addr) (nq cq : Nat) (t : List (List Int)) (hq : GridIn w (.slice Aq nq cq) t) (u : Bool) (hu : allowedB D t = u) :
    Calls Tryz.prog 38 #[.agg #[.slice A1 n1 c1, .int .i64 D.hor, .int .i64 D.now, .slice A2 n2 c2, .slice A3 n3 c3, .slice A4 n4 c4], .slice Aq nq cq] w (RetV w (.bool u)) := by
  have H := hide h; have HU := hide hu; have HQ := hide hq
  have LQ := hide hq.lenq
  have hnq : nq ≤ 1000 := by have := hq.lenq; have := hq.len; omega
  have hhf := h.hfit
  unfold IFit at hhf
  obtain ⟨u0, hu0⟩ : ∃ u, shapeB D t = u := ⟨_, rfl⟩
  have HU0 := hide hu0
  clear h hu hq hu0
  obtain ⟨W0, hW0⟩ : ∃ W0, W0 = (w.alloc (Obj.cells #[Value.slice A1 n1 c1, Value.int .i64 D.hor, Value.int .i64 D.now, Value.slice A2 n2 c2, Value.slice A3 n3 c3, Value.slice A4 n4 c4] 47)) := ⟨_, rfl⟩
  obtain ⟨hb0, r0, hsz0⟩ := boxes1 w [.slice A1 n1 c1, .int .i64 D.hor, .int .i64 D.now, .slice A2 n2 c2, .slice A3 n3 c3, .slice A4 n4 c4] 47 hW0
  have B0 := hide hb0; have HW0 := hide hW0
  have R0 := hide r0
  clear hb0 hW0 hsz0 r0
  go_enter Tryz.func38, Tryz.ntmps38
  go_upto_region 1 with fail
  rw [← HW0.out]
  have r_d := R0.out.later (Later.refl W0)
  have d0 := r_d.cell (i := 0) rfl; have d1 := r_d.cell (i := 1) rfl; have d2 := r_d.cell (i := 2) rfl; have d3 := r_d.cell (i := 3) rfl; have d4 := r_d.cell (i := 4) rfl; have d5 := r_d.cell (i := 5) rfl
  clear r_d
  go_wp2_with fail
  ((with_reducible refine (rshape_calls _ _ _ _ _ _ _ _ _ _ _ _ _ D (H.out.later B0.out) _ _ _ t (HQ.out.later B0.out) u0 HU0.out).mono ?_); rintro e w1 ⟨rfl, b1⟩)
  have HL1 := hide b1
  clear b1 d0 d1 d2 d3 d4 d5
  have r_d := R0.out.later HL1.out
  have d0 := r_d.cell (i := 0) rfl; have d1 := r_d.cell (i := 1) rfl; have d2 := r_d.cell (i := 2) rfl; have d3 := r_d.cell (i := 3) rfl; have d4 := r_d.cell (i := 4) rfl; have d5 := r_d.cell (i := 5) rfl
  clear r_d
  cases u0 with
  | false =>
    have HF : Hid (u = false) := hide (Bool.eq_false_iff.2 (fun h => by
      have h5 := shapeB_iff.2 (allowedB_iff.1 (HU.out.trans h)).shape
      rw [HU0.out] at h5; cases h5))
    go_wp2_with fail
    go_ret
    exact ⟨by first | rfl | (rw [HF.out]; rfl), B0.out.trans HL1.out⟩
  | true =>
  have HS := hide (shapeB_iff.1 HU0.out)
  have hh1 := HS.out.may.head.h1
  have hn0 := HS.out.may.head.t0; have hn40 := HS.out.may.head.t40
  obtain ⟨hz, hhz⟩ : ∃ m : Nat, (m : Int) = D.hor := ⟨D.hor.toNat, by omega⟩
  have HHZ := hide hhz
  have hz6 : hz ≤ 6 := by
    have h6 := HS.out.may.head.h6; have := HS.out.may.head.n1; have := HS.out.may.head.n3
    rcases (by omega : D.items.length = 1 ∨ D.items.length = 2 ∨ D.items.length = 3) with e | e | e <;> rw [e] at h6 <;> omega
  have hnq3 : nq ≤ 3 := by rw [LQ.out, HS.out.len]; exact HS.out.may.head.n3
  have hz1 : 1 ≤ hz := by omega
  clear hnq
  go_wp2_with fail
  clear d0 d1 d2 d3 d4 d5
  go_loopw [5] (fun i wr => ∃ k : Nat, k ≤ hz ∧ i = .int .i64 (k : Int) ∧ Hid (∀ j < k, periodP D t j) ∧ Later w1 wr) (fun i _ => (hz - intOf i).toNat)
  case atStart => exact ⟨0, by omega, rfl, hide fun i hi => by omega, Later.refl _⟩
  case round =>
    obtain ⟨k, hkz, rfl, hpre, hL⟩ := hrel
    have HL := hide hL
    clear hL
    have r_d := R0.out.later (HL1.out.trans HL.out)
    have d0 := r_d.cell (i := 0) rfl; have d1 := r_d.cell (i := 1) rfl; have d2 := r_d.cell (i := 2) rfl; have d3 := r_d.cell (i := 3) rfl; have d4 := r_d.cell (i := 4) rfl; have d5 := r_d.cell (i := 5) rfl
    clear r_d
    by_cases hkn : k < hz
    · have hj1 : (k : Int) < D.hor := by omega
      have t1 : decide ((k : Int) < D.hor) = true := by simpa using hj1
      have HKH : Hid ((k : Int) < D.hor) := hide hj1
      have hw0 : IntKind.i64.wrap (D.now + (k : Int)) = D.now + k := IntWalk.i64_in _ (by omega)
      have HWK := hide hw0
      have HNOP : Hid (¬ periodP D t k → u = false) := hide (fun hk => Bool.eq_false_iff.2 (fun h => hk ((allowedB_iff.1 (HU.out.trans h)).periods k HKH.out)))
      go_wp2_with fail
      clear d0 d1 d2 d3 d4 d5 t1 hj1 hw0
      go_loopw [6, 7, 8] (fun s f iv wr => ∃ j : Nat, j ≤ nq ∧ s = .int .i64 (colSum t k j) ∧ f = .bool (!freeB D k j) ∧ iv = .int .i64 (j : Int) ∧ Hid (∀ i < j, fixOk D t k i) ∧ Later w1 wr) (fun _ _ iv _ => (nq - intOf iv).toNat)
      case atStart => exact ⟨0, by omega, rfl, rfl, rfl, hide (fun i hi => by omega), HL.out⟩
      case round =>
        obtain ⟨j, hj, rfl, rfl, rfl, hpre2, hLx⟩ := hrel
        have HLX := hide hLx
        clear hLx
        have r_d := R0.out.later (HL1.out.trans HLX.out)
        have d0 := r_d.cell (i := 0) rfl; have d1 := r_d.cell (i := 1) rfl; have d2 := r_d.cell (i := 2) rfl; have d3 := r_d.cell (i := 3) rfl; have d4 := r_d.cell (i := 4) rfl; have d5 := r_d.cell (i := 5) rfl
        clear r_d
        by_cases hjn : j < nq
        · obtain ⟨r, hr⟩ : ∃ r, t[j]? = some r := ⟨t[j]'(by have := LQ.out; omega), List.getElem?_eq_getElem _⟩
          have hro := HS.out.rows r (List.mem_of_getElem? hr)
          obtain ⟨z, hz'⟩ : ∃ z, r[k]? = some z := ⟨r[k]'(by have := HKH.out; omega), List.getElem?_eq_getElem _⟩
          have HQZ := hide (qAt_at hr hz')
          have hzb := hro.2 z (List.mem_of_getElem? hz')
          have HR := hide hr; have HZ := hide hz'
          have hj0 : (0 : Int) ≤ (j : Int) := by omega
          have hj1 : (j : Int) < nq := by omega
          have hcb := colSum_bound HS.out k j (by have := LQ.out; omega)
          have HST : Hid (colSum t k (j+1) = colSum t k j + z) := hide (by show colSum t k j + qAt t j k = _; rw [HQZ.out])
          have HFR : Hid (freeB D k (j+1) = (freeB D k j || (fixedV D j (D.now + k)).isNone)) := hide rfl
          obtain ⟨fo, hfo⟩ : ∃ f, fixedV D j (D.now + k) = f := ⟨_, rfl⟩
          obtain ⟨s, hs⟩ : ∃ s, colSum t k j = s := ⟨_, rfl⟩
          obtain ⟨f, hf⟩ : ∃ f, freeB D k j = f := ⟨_, rfl⟩
          rw [hs] at HST hcb ⊢
          rw [hf, hfo] at HFR
          rw [hf]
          have hsb : 0 ≤ s ∧ s ≤ 3000000 := by omega
          have HFO := hide hfo
          clear hr hz' hro hcb hfo hs hf
          have hw0 := HWK.out
          go_wp2_with fail
          ((with_reducible refine (rfixed_calls _ _ _ _ _ _ _ _ _ _ _ _ _ D (H.out.later (B0.out.trans (HL1.out.trans HLX.out))) j (D.now + k)).mono ?_); rintro e w2 ⟨rfl, b2⟩)
          rw [HFO.out]
          have HL2 := hide (HLX.out.trans b2)
          clear b2 d0 d1 d2 d3 d4 d5
          obtain ⟨b1, off1, Ar, nr, cr, rfl, x1, hrow⟩ := (HQ.out.later (B0.out.trans (HL1.out.trans HL2.out))).grid.at_ HR.out
          obtain ⟨b3, off3, rfl, x2⟩ := hrow.at1 HZ.out
          have hkr : k < nr := by have := hrow.len_; have h5 := HS.out.rows r (List.mem_of_getElem? HR.out); have := HKH.out; omega
          have hk1 : (k : Int) < nr := by omega
          have hk0 : (0 : Int) ≤ (k : Int) := by omega
          have hw1 : IntKind.i64.wrap (s + z) = s + z := IntWalk.i64_in _ (by omega)
          clear hrow
          cases fo with
          | none =>
            have HFR2 : Hid (freeB D k (j+1) = true) := hide (by rw [HFR.out]; simp)
            have HN : Hid (∀ i < j + 1, fixOk D t k i) := hide (fun i hi => by
              by_cases hij : i < j
              · exact hpre2.out i hij
              · obtain rfl : i = j := by omega
                intro n hn; rw [HFO.out] at hn; cases hn)
            cases f <;>
            (go_wp2_with fail
             exact ⟨⟨j+1, by omega, by rw [HST.out], by rw [HFR2.out]; rfl, by go_num, HN, HL2.out⟩, by simp [intOf]; omega⟩)
          | some n =>
            have HFR2 : Hid (freeB D k (j+1) = f) := hide (by rw [HFR.out]; simp)
            by_cases g : n = z
            · have t1 : (n != z) = false := by simpa using g
              have HN : Hid (∀ i < j + 1, fixOk D t k i) := hide (fun i hi => by
                by_cases hij : i < j
                · exact hpre2.out i hij
                · obtain rfl : i = j := by omega
                  intro m hm; rw [HFO.out] at hm; injection hm with hm; rw [HQZ.out, ← hm]; exact g)
              clear g
              cases f <;>
              (go_wp2_with fail
               exact ⟨⟨j+1, by omega, by rw [HST.out], by rw [HFR2.out]; rfl, by go_num, HN, HL2.out⟩, by simp [intOf]; omega⟩)
            · have t1 : (n != z) = true := by simpa using g
              have HF : Hid (u = false) := hide (HNOP.out (fun h => by
                have h5 := h.1 j (by have := LQ.out; omega) n HFO.out
                rw [HQZ.out] at h5; exact g h5))
              clear g
              go_wp2_with fail
              go_ret
              exact ⟨by first | rfl | (rw [HF.out]; rfl), B0.out.trans (HL1.out.trans HL2.out)⟩
        · obtain rfl : j = nq := by omega
          have hw0 := HWK.out
          have hj1 : ¬ (j : Int) < j := by omega
          obtain ⟨s, hs⟩ : ∃ s, colSum t k j = s := ⟨_, rfl⟩
          obtain ⟨f, hf⟩ : ∃ f, freeB D k j = f := ⟨_, rfl⟩
          rw [hs, hf]
          have HP : Hid (periodP D t k ↔ (f = true → s ≤ capV D (D.now + k))) := hide (by
            unfold periodP
            rw [← LQ.out, hs, hf]
            exact ⟨fun h => h.2, fun h => ⟨hpre2.out, h⟩⟩)
          have HN : Hid (periodP D t k → ∀ j < k + 1, periodP D t j) := hide (fun hp i hi => by
            by_cases hik : i < k
            · exact hpre.out i hik
            · obtain rfl : i = k := by omega
              exact hp)
          clear hs hf hpre2 hpre
          cases f with
          | false =>
            have HN2 := hide (HN.out (HP.out.2 (fun h => by cases h)))
            go_wp2_with fail
            exact ⟨⟨k+1, by omega, by go_num, HN2, HLX.out⟩, by simp [intOf]; omega⟩
          | true =>
            obtain ⟨cv, hcv⟩ : ∃ cv, capV D (D.now + k) = cv := ⟨_, rfl⟩
            have HCV := hide hcv
            clear hcv
            go_wp2_with fail
            ((with_reducible refine (rcap_calls _ _ _ _ _ _ _ _ _ _ _ _ _ D (H.out.later (B0.out.trans (HL1.out.trans HLX.out))) (D.now + k)).mono ?_); rintro e w2 ⟨rfl, b2⟩)
            rw [HCV.out]
            have HL2 := hide (HLX.out.trans b2)
            clear b2 d0 d1 d2 d3 d4 d5
            by_cases g : cv < s
            · have t2 : decide (cv < s) = true := by simpa using g
              have HF : Hid (u = false) := hide (HNOP.out (fun h => by
                have h5 := HP.out.1 h (by first | rfl | trivial)
                rw [HCV.out] at h5; omega))
              clear g
              go_wp2_with fail
              go_ret
              exact ⟨by first | rfl | (rw [HF.out]; rfl), B0.out.trans (HL1.out.trans HL2.out)⟩
            · have t2 : decide (cv < s) = false := by simpa using g
              have HN2 := hide (HN.out (HP.out.2 (fun _ => by rw [HCV.out]; omega)))
              clear g
              go_wp2_with fail
              exact ⟨⟨k+1, by omega, by go_num, HN2, HL2.out⟩, by simp [intOf]; omega⟩
    · obtain rfl : k = hz := by omega
      have hj1 : ¬ (k : Int) < D.hor := by omega
      have t1 : decide ((k : Int) < D.hor) = false := by simpa using hj1
      have HPER := hide hpre.out
      have HZJ : Hid (D.hor.toNat = k) := hide (by omega)
      have hw2 : IntKind.i64.wrap (D.hor - 1) = ((k - 1 : Nat) : Int) := by rw [IntWalk.i64_in _ (by omega)]; omega
      have HW2 := hide hw2
      clear hpre hw2
      go_wp2_with fail
      clear d0 d1 d2 d3 d4 d5 hj1 t1
      go_loopw [11] (fun i wr => ∃ j : Nat, j ≤ nq ∧ i = .int .i64 (j : Int) ∧ Hid (∀ (i : Nat) r, i < j → t[i]? = some r → 0 ≤ lev D r i D.hor.toNat) ∧ Later w1 wr) (fun i _ => (nq - intOf i).toNat)
      case atStart => exact ⟨0, by omega, rfl, hide fun i r hi => by omega, HL.out⟩
      case round =>
        obtain ⟨j, hj, rfl, hpre2, hLx⟩ := hrel
        have HLX := hide hLx
        clear hLx
        have r_d := R0.out.later (HL1.out.trans HLX.out)
        have d0 := r_d.cell (i := 0) rfl; have d1 := r_d.cell (i := 1) rfl; have d2 := r_d.cell (i := 2) rfl; have d3 := r_d.cell (i := 3) rfl; have d4 := r_d.cell (i := 4) rfl; have d5 := r_d.cell (i := 5) rfl
        clear r_d
        by_cases hjn : j < nq
        · obtain ⟨r, hr⟩ : ∃ r, t[j]? = some r := ⟨t[j]'(by have := LQ.out; omega), List.getElem?_eq_getElem _⟩
          have HR := hide hr
          have hj0 : (0 : Int) ≤ (j : Int) := by omega
          have hj1 : (j : Int) < nq := by omega
          have HRL : Hid (r.length = k) := hide (by have := (HS.out.rows r (List.mem_of_getElem? hr)).1; have := HHZ.out; omega)
          obtain ⟨lv, hlv⟩ : ∃ lv, lev D r j (k - 1 + 1) = lv := ⟨_, rfl⟩
          have HLV := hide hlv
          have hw2 := HW2.out
          clear hr hlv
          obtain ⟨u9, t9⟩ : ∃ u9, decide (lv < 0) = u9 := ⟨_, rfl⟩
          go_wp2_with fail
          ((with_reducible refine (rlevel_calls _ _ _ _ _ _ _ _ _ _ _ _ _ D (H.out.later (B0.out.trans (HL1.out.trans HLX.out))) _ _ _ t (HQ.out.later (B0.out.trans (HL1.out.trans HLX.out))) j (k - 1) r HR.out (HS.out.rows r (List.mem_of_getElem? HR.out)).2 (by rw [HRL.out]; omega) HS.out.may).mono ?_); rintro e w2 ⟨rfl, b2⟩)
          rw [HLV.out]
          have HL2 := hide (HLX.out.trans b2)
          clear b2 d0 d1 d2 d3 d4 d5
          cases u9 with
          | true =>
            have HF : Hid (u = false) := hide (Bool.eq_false_iff.2 (fun h => by
              have h5 := (allowedB_iff.1 (HU.out.trans h)).levels j r HR.out
              have := HLV.out
              rw [HZJ.out] at h5
              rw [show k - 1 + 1 = k by omega] at this
              rw [decide_eq_true_iff] at t9; omega))
            go_wp2_with fail
            go_ret
            exact ⟨by first | rfl | (rw [HF.out]; rfl), B0.out.trans (HL1.out.trans HL2.out)⟩
          | false =>
            have HN : Hid (∀ (i : Nat) r, i < j + 1 → t[i]? = some r → 0 ≤ lev D r i D.hor.toNat) := hide (fun i y hi hy => by
              by_cases hij : i < j
              · exact hpre2.out i y hij hy
              · obtain rfl : i = j := by omega
                rw [HR.out] at hy; injection hy with hy
                have := HLV.out
                rw [show k - 1 + 1 = k by omega, ← HZJ.out] at this
                rw [← hy, this]
                rw [decide_eq_false_iff_not] at t9; omega)
            go_wp2_with fail
            exact ⟨⟨j+1, by omega, by go_num, HN, HL2.out⟩, by simp [intOf]; omega⟩
        · have HF : Hid (u = true) := hide (by
            rw [← HU.out, allowedB_iff]
            exact ⟨HS.out, fun i hi => HPER.out i (by have := HHZ.out; omega), fun i r hi => hpre2.out i r (by have := (List.getElem?_eq_some_iff.1 hi).1; have := LQ.out; omega) hi⟩)
          have hj1 : ¬ (j : Int) < nq := by omega
          clear hpre2
          go_wp2_with fail
          go_ret
          exact ⟨by first | rfl | (rw [HF.out]; rfl), B0.out.trans (HL1.out.trans HLX.out)⟩
end Go.Proofs.YthncinngkfflgaaGreat
