/- LinScaled: the walk. -/
import Derived.Test.YtkendajmnmchoaaM18
import Derived.Test.YtkendajmnmchoaaM17
set_option linter.unusedVariables false
set_option linter.unusedSimpArgs false
set_option maxRecDepth 100000
namespace Go.Proofs.Ytkendajmnmchoaa
open Go.RowKit Go.Shelf
attribute [local go_sem ↓] Go.wp_at_zero Go.wp_at_succ

theorem OutRats.map {E E' : Elem} {w : World} {P : Nat → Prop} {lo : Nat} {v : Value} {l : List Rat} (h : OutRats E w P lo v l) (hE : ∀ W v q, q ∈ l → E W v q → E' W v q) : OutRats E' w P lo v l := by
  obtain ⟨es, h1, h2, h3, h4⟩ := h
  exact ⟨es, h1, h2, h3, h4.map fun W hW i e q hi hq => hE W _ q (List.mem_of_getElem? hq) (hW i e q hi hq)⟩
theorem scaled_b {b : List Rat} {n i a : Nat} {y q : Rat} (hb : b.length = n) (hi : i < n) (hy : b[i]? = some y) (ha : a < n) : (b.set i (y * q)).getD a 0 = if a = i then b.getD i 0 * q else b.getD a 0 := by
  rw [List.getD_eq_getElem?_getD, List.getElem?_set]
  by_cases e : a = i
  · subst e; rw [if_pos rfl, if_pos (by omega), if_pos rfl, List.getD_eq_getElem?_getD, hy]; rfl
  · rw [if_neg (fun h => e h.symm), if_neg e, List.getD_eq_getElem?_getD]
theorem scaled_row {row : List Rat} {n k : Nat} {q : Rat} (hr : row.length = n) (hk : k < n) : (axpyL (List.replicate n 0) row q).getD k 0 = q * row.getD k 0 := by
  have h1 : row[k]? = some (row[k]'(by omega)) := List.getElem?_eq_getElem _
  rw [List.getD_eq_getElem?_getD, List.getD_eq_getElem?_getD]
  unfold axpyL
  rw [List.getElem?_zipWith, h1, List.getElem?_replicate, if_pos hk]
  simp only [Option.getD_some]; grind
theorem scaled_t {t : List (List Rat)} {n i a k : Nat} {row : List Rat} {q : Rat} (ht : t.length = n) (hi : i < n) (hrow : t[i]? = some row) (hrl : row.length = n) (hk : k < n) : ent (t.set i (axpyL (List.replicate n 0) row q)) a k = if a = i then q * ent t i k else ent t a k := by
  unfold ent
  rw [List.getD_eq_getElem?_getD (l := t.set _ _), List.getElem?_set]
  by_cases e : a = i
  · subst e
    rw [if_pos rfl, if_pos (by omega), if_pos rfl]
    simp only [Option.getD_some]
    rw [scaled_row hrl hk, List.getD_eq_getElem?_getD (l := t), hrow]; rfl
  · rw [if_neg (fun h => e h.symm), if_neg e, List.getD_eq_getElem?_getD (l := t)]
theorem scaled_x {n i : Nat} {t : List (List Rat)} {b x y row : List Rat} {o p : Bool} {q z : Rat} (ht : t.length = n) (hb : b.length = n) (hi : i < n) (hrow : t[i]? = some row) (hrl : row.length = n) (hz : b[i]? = some z) (hq : q ≠ 0)
    (h : SolX n t b o x) (k : SolX n (t.set i (axpyL (List.replicate n 0) row q)) (b.set i (z * q)) p y) : p = o ∧ y = x := by
  have e1 : ∀ a j, a < n → j < n → ent (t.set i (axpyL (List.replicate n 0) row q)) a j = if a = i then q * ent t i j else ent t a j := fun a j ha hj => scaled_t ht hi hrow hrl hj
  have e2 : ∀ a, a < n → (fun a => (b.set i (z * q)).getD a 0) a = if a = i then (fun a => b.getD a 0) i * q else (fun a => b.getD a 0) a := fun a ha => scaled_b hb hi hz ha
  have e3 := sing_scaled hq e1
  rcases h with ⟨rfl, rfl, hs⟩ | ⟨rfl, hl, hs, hn⟩
  · rcases k with ⟨rfl, rfl, -⟩ | ⟨rfl, -, -, kn⟩
    · exact ⟨rfl, rfl⟩
    · exact absurd (e3.2 hs) kn
  · rcases k with ⟨rfl, rfl, ks⟩ | ⟨rfl, kl, ks, kn⟩
    · exact absurd (e3.1 ks) hn
    · exact ⟨rfl, list_eq_of_getD kl hl fun j hj => sol_unique hn ((sol_scaled (b := fun a => b.getD a 0) hq e1 e2).1 ks) hs hj⟩
theorem axpy_getD {b : List Rat} {n k : Nat} (hb : b.length = n) (hk : k < n) : (axpyL b b 1).getD k 0 = b.getD k 0 + 1 * b.getD k 0 := by
  have h1 : b[k]? = some (b[k]'(by omega)) := List.getElem?_eq_getElem _
  rw [List.getD_eq_getElem?_getD, List.getD_eq_getElem?_getD]
  unfold axpyL
  rw [List.getElem?_zipWith, h1]; rfl
theorem axpy_len {b c : List Rat} {q : Rat} (h : b.length = c.length) : (axpyL b c q).length = b.length := by
  unfold axpyL; rw [List.length_zipWith]; omega
theorem double_x {n : Nat} {t : List (List Rat)} {b x y : List Rat} {o p : Bool} (hb : b.length = n) (h : SolX n t b o x) (k : SolX n t (axpyL b b 1) p y) : p = o ∧ y = axpyL x x 1 := by
  rcases h with ⟨rfl, rfl, hs⟩ | ⟨rfl, hl, hs, hn⟩
  · rcases k with ⟨rfl, rfl, -⟩ | ⟨rfl, -, -, kn⟩
    · exact ⟨rfl, rfl⟩
    · exact absurd hs kn
  · rcases k with ⟨rfl, rfl, ks⟩ | ⟨rfl, kl, ks, kn⟩
    · exact absurd ks hn
    · refine ⟨rfl, list_eq_of_getD kl (by rw [axpy_len rfl]; exact hl) fun j hj => ?_⟩
      exact sol_unique hn ks (sol_double (x := fun i => x.getD i 0) (y := fun i => (axpyL x x 1).getD i 0) (fun a ha => axpy_getD hb ha) (fun a ha => axpy_getD hl ha) hs) hj

set_option maxHeartbeats 16000000 in
theorem linscaled_walk (w : World) (va vb : Value) (t : List (List Rat)) (b : List Rat) (z : Int) (ha : Tab EAny w va t) (hb : Rats EAny w vb b) (wz : (Lit.int .u8 z).wf = true) : Calls Try.prog 7 #[va, vb, .int .u8 z] w (RetV w (.bool true)) := by
  obtain ⟨m, hm, rfl⟩ : ∃ m : Nat, m ≤ 255 ∧ z = (m : Int) := by
    have h3 : 0 ≤ z ∧ z ≤ 255 := by simpa [Lit.wf, IntKind.min, IntKind.max, IntKind.bits, IntKind.signed] using wz
    exact ⟨z.toNat, by omega, by omega⟩
  clear wz
  have HA := hide ha; have HB := hide hb
  obtain ⟨A0, nt, ca, rfl, hnt, -⟩ := ha.form
  obtain ⟨B0, nb, cb, rfl, hnb, -⟩ := hb.form
  have HNB := hide hnb; have HNT := hide hnt
  clear ha hb hnb hnt
  go_enter Try.func7, Try.ntmps7
  go_wp2_with fail
  refine (awake_calls _).mono ?_
  rintro e w1 ⟨rfl, b1⟩
  have HL1 := hide b1
  clear b1
  go_wp2_with fail
  refine (fewrows_calls w1 _ t 4 (HA.out.later EAny.later HL1.out) (by omega)).mono ?_
  rintro e w2 ⟨u, rfl, hf, hw⟩
  subst hw
  cases u with
  | false =>
    go_wp2_with fail
    go_ret
    exact ⟨rfl, HL1.out⟩
  | true =>
  have HFT := hide (hf rfl)
  clear hf
  go_wp2_with fail
  refine (few_calls w1 _ b 4 (HB.out.later EAny.later HL1.out) (by omega)).mono ?_
  rintro e w2 ⟨u, rfl, hf, hw⟩
  subst hw
  cases u with
  | false =>
    go_wp2_with fail
    go_ret
    exact ⟨rfl, HL1.out⟩
  | true =>
  have HFB := hide (hf rfl)
  clear hf
  by_cases hlen : nb = nt
  case neg =>
    have t1 : ((nb : Int) != (nt : Int)) = true := by rw [bne_iff_ne]; omega
    go_wp2_with fail
    go_ret
    exact ⟨rfl, HL1.out⟩
  case pos =>
  have t1 : ((nb : Int) != (nt : Int)) = false := by simp; omega
  have hn4 : nt ≤ 4 := by rw [HNT.out]; exact HFT.out.1
  have HLEN := hide hlen; have HN4 := hide hn4
  clear hlen
  go_wp2_with fail
  obtain ⟨u, hu⟩ : ∃ u, rectB t nt = u := ⟨_, rfl⟩
  refine (qrect_calls w1 _ t (ERaw 1) HFT.out.2.2 nt (by have := HFT.out.1; omega) u hu).mono ?_
  rintro e w2 ⟨rfl, b2⟩
  have HLA := hide (HL1.out.trans b2)
  have HB2 := hide b2
  clear b2
  cases u with
  | false =>
    go_wp2_with fail
    go_ret
    exact ⟨rfl, HLA.out⟩
  | true =>
  have HRT := hide (rectB_true hu)
  have HTW : Hid (∀ W, Later w2 W → Tab (ERaw 1) W (.slice A0 nt ca) t) := hide fun W hW => HFT.out.2.2.later ERaw.later (HB2.out.trans hW)
  have HRB : Hid (∀ W, Later w2 W → Rats (ERaw 1) W (.slice B0 nb cb) b) := hide fun W hW => HFB.out.2.later ERaw.later (HB2.out.trans hW)
  have hbl : b.length = nt := by rw [← HNB.out]; exact HLEN.out
  have htl : t.length = nt := HNT.out.symm
  have HBL := hide hbl; have HTL := hide htl
  clear hu t1 hbl htl
  by_cases h0 : nt = 0
  case pos =>
    have t2 : ((nt : Int) == 0) = true := by simp; omega
    go_wp2_with fail
    go_ret
    exact ⟨rfl, HLA.out⟩
  case neg =>
  have t2 : ((nt : Int) == 0) = false := by simp; omega
  have hpos : 0 < nt := by omega
  obtain ⟨i, hi⟩ : ∃ i, m % nt = i := ⟨_, rfl⟩
  have hin : i < nt := by rw [← hi]; exact Nat.mod_lt _ hpos
  have t3 : Int.tmod (m : Int) (nt : Int) = (i : Int) := by rw [← hi]; rfl
  have HIN := hide hin; have HPOS := hide hpos
  clear hi h0
  obtain ⟨q, hq⟩ : ∃ q, Rat.divInt (2 + (m : Int)) 1 = q := ⟨_, rfl⟩
  have hq0 : q ≠ 0 := by
    rw [← hq, ← div_0]
    intro h
    have := (Rat.divInt_eq_divInt_iff (by decide) (by decide)).1 h
    omega
  have hqs : Sized q 1 := by
    rw [← hq]
    exact sized_divInt (by decide) (length_limbs_le (by omega)) (length_limbs_le (by decide))
  have HQ := hide hq; have HQ0 := hide hq0; have HQS := hide hqs
  obtain ⟨row, hrow⟩ : ∃ row, t[i]? = some row := ⟨t[i]'(by have := HTL.out; omega), List.getElem?_eq_getElem _⟩
  obtain ⟨y, hy⟩ : ∃ y, b[i]? = some y := ⟨b[i]'(by have := HBL.out; omega), List.getElem?_eq_getElem _⟩
  have HROW := hide hrow; have HY := hide hy
  have HRL := hide (HRT.out row (List.mem_of_getElem? hrow))
  clear hq hq0 hqs hrow hy
  go_wp2_with fail
  refine (lawof_calls _ (2 + (m : Int)) (by omega) (by omega) q HQ.out).mono ?_
  rintro e w3 ⟨v3, rfl, o3, b3⟩
  obtain ⟨s3, P3, q3, e3, P3', q3', e3', rfl, o3⟩ := o3.open_; have O3 := hide o3; clear o3
  go_upto_region 7 with fail
  obtain ⟨wa, hwa⟩ : ∃ wa, wa = w3.alloc (Obj.cells #[Value.bool s3, Value.slice P3 q3 e3, Value.bool false, Value.slice P3' q3' e3'] 27) := ⟨_, rfl⟩
  have hr8 : Row wa w3.heap.size 27 [.bool s3, .slice P3 q3 e3, .bool false, .slice P3' q3' e3'] := by rw [hwa]; exact Row.new w3 _ _
  have hoq : OwnR wa 0 (.agg #[.bool s3, .slice P3 q3 e3, .bool false, .slice P3' q3' e3']) q := by rw [hwa]; exact OwnR.weaken (OwnR.later O3.out ((Later.refl _).alloc _)) (Nat.zero_le _)
  have hla : Later w2 wa := by rw [hwa]; exact b3.alloc _
  rw [← hwa]
  obtain ⟨g8, hg8⟩ : ∃ g, g = w3.heap.size := ⟨_, rfl⟩
  rw [← hg8] at hr8 ⊢
  have HR8 := hide hr8; have HOQ := hide hoq; have HL2A := hide hla
  clear hwa hr8 hoq hla hg8 b3 O3
  go_upto_region 8 with (at_make; refine wpList_make_rats rfl (.tmp 61) rfl _ nt rfl rfl (by have := HN4.out; omega) ?_; intro g4 w4 hg4 ho4 b4)
  have HO4 := hide (ho4.rats.now); have HB4 := hide b4
  clear ho4 b4 hg4
  have h24 := HL2A.out.trans HB4.out
  have HL24 := hide h24
  clear h24
  go_upto_region 9 with (at_builtin; refine wpList_append_tab rfl _ _ rfl rfl (own_empty _ _ _) rfl (by rw [World.size_alloc]; omega) (HTW.out w2 (Later.refl _)) (HL24.out.alloc _) (by rw [HTL.out]; exact HPOS.out) (by have := HTL.out; have := HN4.out; omega) HL24.out.size_le ?_; intro v6 w6 hout6 hg6)
  have hL46 : Later w4 w6 := ((Later.refl w4).alloc _).grown hg6 fun k hk => by have hk2 : some w4.heap.size = some k := hk; injection hk2 with hk2; omega
  obtain ⟨g10, cap6, cs6, rfl, hlo6, hlc6, hcm6, hr6, hcs6⟩ := hout6.open_ (by rw [HTL.out]; exact HPOS.out)
  rw [HTL.out] at hout6 ⊢
  obtain ⟨Ao, no, co, hxo⟩ := hcs6 i (by rw [HTL.out]; exact HIN.out)
  have HU6 := hide hout6
  have HR6 := hide hr6
  have hL6d : Later w4 w6.drew := hL46.drew
  have h26 := HL24.out.trans hL6d
  obtain ⟨bt, ot, R1, rn, rc, rfl, x1, ex⟩ := (HTW.out w2 (Later.refl _)).at_ HROW.out
  have hr8d := HR8.out.later HB4.out
  have HS9 : Hid (∀ w', Later w4 w' → w'.cell? ⟨bt, ot + i, none⟩ = some (.slice R1 rn rc) ∧ w'.cell? ⟨g8, 0, none⟩ = some (.bool s3) ∧ w'.cell? ⟨g8, 1, none⟩ = some (.slice P3 q3 e3) ∧ w'.cell? ⟨g8, 2, none⟩ = some (.bool false) ∧ w'.cell? ⟨g8, 3, none⟩ = some (.slice P3' q3' e3')) := hide fun w' hb => ⟨Later.cell (HL24.out.trans hb) x1, (hr8d.later hb).cell rfl, (hr8d.later hb).cell rfl, (hr8d.later hb).cell rfl, (hr8d.later hb).cell rfl⟩
  have HL4D := hide hL6d
  have HZ9 : Hid (Rats (ERaw 1) w6.drew (.slice (some ⟨g4, 0, none⟩) nt nt) (List.replicate nt 0)) := hide (HO4.out.later ERaw.later hL6d)
  have HR9 : Hid (Rats (ERaw 1) w6.drew (.slice R1 rn rc) row) := hide (Rats.later ERaw.later ex h26)
  have HQ9 : Hid (RawR w6.drew (.agg #[.bool s3, .slice P3 q3 e3, .bool false, .slice P3' q3' e3']) q 1) := hide (OwnR.raw (OwnR.later HOQ.out (HB4.out.trans hL6d)) HQS.out)
  have HZL : Hid ((List.replicate nt (0 : Rat)).length = row.length) := hide (by rw [List.length_replicate]; exact HRL.out.symm)
  have HX2 : Hid (∀ W, Later w2 W → W.cell? ⟨bt, ot + i, none⟩ = some (.slice R1 rn rc)) := hide fun W hW => Later.cell hW x1
  have HL46 := hide hL46; have HL26 := hide h26
  have hgl : w4.heap.size ≤ g10 := hlo6
  have hgi : (0 : Int) ≤ (i : Int) := by omega
  have hgi2 : (i : Int) < (nt : Int) := by have := HIN.out; omega
  have hmx : Try.prog.follows .mixedOrders = true := by kernel_rfl
  clear hout6 hg6 hr6 hcs6 hL6d h26 x1 ex hr8d hL46 hlo6
  refine wp_region_N (fun w' => w'.cell? ⟨bt, ot + i, none⟩ = some (.slice R1 rn rc) ∧ w'.cell? ⟨g8, 0, none⟩ = some (.bool s3) ∧ w'.cell? ⟨g8, 1, none⟩ = some (.slice P3 q3 e3) ∧ w'.cell? ⟨g8, 2, none⟩ = some (.bool false) ∧ w'.cell? ⟨g8, 3, none⟩ = some (.slice P3' q3' e3')) [] hmx (HS9.out _ HL4D.out) (fun hHeld => ?_)
  refine wpAnyN_take (i := 0) (oi := _) (v := ?_) rfl (by kernel_rfl) (by kernel_rfl) (by kernel_rfl) (by kernel_rfl) (fun _ _ _ h => h) (Or.inl ⟨by rfl, ?_⟩) (by assumption) ?_
  rotate_left
  · intro w hSw; (try dsimp only at hSw); go_simp
    first | done | with_reducible rfl
  try simp only [Act.put, List.setIfInBounds_toArray, List.set_cons_zero, List.set_cons_succ]
  refine wpAnyN_take (i := 1) (oi := _) (v := ?_) rfl (by kernel_rfl) (by kernel_rfl) (by kernel_rfl) (by kernel_rfl) (fun _ _ _ h => h) (Or.inl ⟨by rfl, ?_⟩) (by assumption) ?_
  rotate_left
  · intro w hSw; (try dsimp only at hSw); go_simp
    first | done | with_reducible rfl
  try simp only [Act.put, List.setIfInBounds_toArray, List.set_cons_zero, List.set_cons_succ]
  refine wpAnyN_take (i := 2) (oi := _) (v := ?_) rfl (by kernel_rfl) (by kernel_rfl) (by kernel_rfl) (by kernel_rfl) (fun _ _ _ h => h) (Or.inl ⟨by rfl, ?_⟩) (by assumption) ?_
  rotate_left
  · intro w hSw; (try dsimp only at hSw); go_simp
    first | done | with_reducible rfl
  try simp only [Act.put, List.setIfInBounds_toArray, List.set_cons_zero, List.set_cons_succ]
  refine wpAnyN_take (i := 3) (oi := _) (v := ?_) rfl (by kernel_rfl) (by kernel_rfl) (by kernel_rfl) (by kernel_rfl) (fun _ _ _ h => h) (Or.inl ⟨by rfl, ?_⟩) (by assumption) ?_
  rotate_left
  · intro w hSw; (try dsimp only at hSw); go_simp
    first | done | with_reducible rfl
  try simp only [Act.put, List.setIfInBounds_toArray, List.set_cons_zero, List.set_cons_succ]
  refine wpAnyN_take (i := 4) (oi := _) (v := ?_) rfl (by kernel_rfl) (by kernel_rfl) (by kernel_rfl) (by kernel_rfl) (fun _ _ _ h => h) (Or.inl ⟨by rfl, ?_⟩) (by assumption) ?_
  rotate_left
  · intro w hSw; (try dsimp only at hSw); go_simp
    first | done | with_reducible rfl
  try simp only [Act.put, List.setIfInBounds_toArray, List.set_cons_zero, List.set_cons_succ]
  refine wpAnyN_take (i := 5) (oi := _) (v := ?_) rfl (by kernel_rfl) (by kernel_rfl) (by kernel_rfl) (by kernel_rfl) (fun _ _ _ h => h) (Or.inl ⟨by rfl, ?_⟩) (by assumption) ?_
  rotate_left
  · intro w hSw; (try dsimp only at hSw); go_simp
    first | done | with_reducible rfl
  try simp only [Act.put, List.setIfInBounds_toArray, List.set_cons_zero, List.set_cons_succ]
  refine wpAnyN_take (i := 6) (oi := _) (v := ?_) rfl (by kernel_rfl) (by kernel_rfl) (by kernel_rfl) (by kernel_rfl) (fun _ _ _ h => h) (Or.inl ⟨by rfl, ?_⟩) (by assumption) ?_
  rotate_left
  · intro w hSw; (try dsimp only at hSw); go_simp
    first | done | with_reducible rfl
  try simp only [Act.put, List.setIfInBounds_toArray, List.set_cons_zero, List.set_cons_succ]
  refine wpAnyN_take (i := 7) (oi := _) (v := ?_) rfl (by kernel_rfl) (by kernel_rfl) (by kernel_rfl) (by kernel_rfl) (fun _ _ _ h => h) (Or.inl ⟨by rfl, ?_⟩) (by assumption) ?_
  rotate_left
  · intro w hSw; (try dsimp only at hSw); go_simp
    first | done | with_reducible rfl
  try simp only [Act.put, List.setIfInBounds_toArray, List.set_cons_zero, List.set_cons_succ]
  refine wpAnyN_ready (rs := [8]) (by kernel_rfl) (by simp) ?_
  refine AllReadyN.held rfl (by rfl) (fun K hK => ?_) AllReadyN.nil
  go_simp
  (with_reducible refine (qaddtimes_calls _ _ _ _ (List.replicate nt 0) row q 1 1 1 HZ9.out HR9.out HQ9.out HZL.out (by rw [List.length_replicate]; have := HN4.out; omega) (by omega)).mono ?_)
  rintro e w7 ⟨v7, ok7, rfl, ⟨o7, rfl⟩, b7⟩
  obtain ⟨A7, n7, c7, rfl, -⟩ := o7.now.form
  have O7 := hide o7; have HB7 := hide b7
  have hr7 := (HR6.out.later (Later.refl w6).drew).later b7
  have hc7 := hr7.cell hxo
  have hf7 := hr7.frozen i
  have HR7 := hide hr7
  clear o7 b7 hr7
  refine hK.out _ _ ?_ (fun hHeld => ?_)
  · exact HS9.out _ (HL4D.out.trans HB7.out)
  clear hK K
  try simp only [Act.put, List.setIfInBounds_toArray, List.set_cons_zero, List.set_cons_succ]
  refine wpAnyN_take (i := 9) (oi := _) (v := ?_) rfl (by kernel_rfl) (by kernel_rfl) (by kernel_rfl) (by kernel_rfl) (fun _ _ _ h => h) (Or.inl ⟨by rfl, ?_⟩) (by assumption) ?_
  rotate_left
  · intro w hSw; (try dsimp only at hSw); go_simp
    first | done | with_reducible rfl
  try simp only [Act.put, List.setIfInBounds_toArray, List.set_cons_zero, List.set_cons_succ]
  refine wpAnyN_take (i := 10) (oi := _) (v := ?_) rfl (by kernel_rfl) (by kernel_rfl) (by kernel_rfl) (by kernel_rfl) (fun _ _ _ h => h) (Or.inl ⟨by rfl, ?_⟩) (by assumption) ?_
  rotate_left
  · intro w hSw; (try dsimp only at hSw); go_simp
    first | done | with_reducible rfl
  try simp only [Act.put, List.setIfInBounds_toArray, List.set_cons_zero, List.set_cons_succ]
  refine wpAnyN_take (i := 11) (oi := _) (v := ?_) rfl (by kernel_rfl) (by kernel_rfl) (by kernel_rfl) (by kernel_rfl) (fun _ _ _ h => h) (Or.inl ⟨by rfl, ?_⟩) (by assumption) ?_
  rotate_left
  · intro w hSw; (try dsimp only at hSw); go_simp
    first | done | with_reducible rfl
  try simp only [Act.put, List.setIfInBounds_toArray, List.set_cons_zero, List.set_cons_succ]
  refine wpAnyN_take (i := 12) (oi := _) (v := ?_) rfl (by kernel_rfl) (by kernel_rfl) (by kernel_rfl) (by kernel_rfl) (fun _ _ _ h => h) (Or.inl ⟨by rfl, ?_⟩) (by assumption) ?_
  rotate_left
  · intro w hSw; (try dsimp only at hSw); go_simp
    first | done | with_reducible rfl
  try simp only [Act.put, List.setIfInBounds_toArray, List.set_cons_zero, List.set_cons_succ]
  refine wpAnyN_ready (rs := [13]) (by kernel_rfl) (by simp) ?_
  refine AllReadyN.held rfl (by rfl) (fun K hK => ?_) AllReadyN.nil
  go_simp
  refine hK.out _ _ ?_ (fun hHeld => ?_)
  · exact HS9.out _ ((HL4D.out.trans HB7.out).setCell hgl _)
  clear hK K
  try simp only [Act.put, List.setIfInBounds_toArray, List.set_cons_zero, List.set_cons_succ]
  refine wpAnyN_done (by kernel_rfl) ?_ _
  obtain ⟨w8, hw8⟩ : ∃ w8, w8 = w7.setCell ⟨g10, i, none⟩ (.slice A7 n7 c7) := ⟨_, rfl⟩
  have hszA : ∀ x ∈ axpyL (List.replicate nt 0) row q, Sized x 10 := fun x hx => (sized_axpy HZ9.out.sized HR9.out.sized HQS.out x hx).mono (by omega)
  have h4s := HL24.out.size_le
  have hg6 := HR6.out.lt
  have hu8 : OutTab (ERaw 10) w8 (fun k => k ≠ g10) w4.heap.size (.slice (some ⟨g10, 0, none⟩) nt cap6) (t.set i (axpyL (List.replicate nt 0) row q)) := by
    rw [hw8]
    refine OutTab.put (((HU6.out.later ((Later.refl w6).drew.trans HB7.out)).mono (P' := fun k => k ≠ g10) (fun k hk _ e => by omega)).map (fun W v x _ h => RawR.mono h (by omega))) (by rw [HTL.out]; exact HIN.out) ?_
    refine (On.mono O7.out (P' := fun k => k ≠ g10 ∧ k ≠ g10) (fun k hk _ => ?_)).map fun W hW => hW.map fun v x hx he => OwnR.raw (B := 0) he (hszA x hx)
    have hk2 : w6.heap.size ≤ k := hk
    exact ⟨by omega, by omega⟩
  have hL48 : Later w4 w8 := by rw [hw8]; exact (HL4D.out.trans HB7.out).setCell hgl _
  rw [← hw8]
  have HU8 := hide hu8.tab.now; have HL48 := hide hL48
  have HL28 := hide (HL24.out.trans hL48)
  clear hu8 hw8 hL48 hHeld hc7 hf7 HR7 O7 HB7 HU6 HR6 HZ9 HR9 HQ9 hszA HS9
  have HSRC : Hid (∀ o, Rats (EOn (fun b => b < w2.heap.size) (ERaw 1)) (w8.alloc o) (.slice B0 nb cb) b) := hide fun o => (On.ratsE (On.ratsRaw (HRB.out w2 (Later.refl _)))).later EOn.later (HL28.out.alloc _)
  go_upto_region 11 with (at_builtin; refine wpList_append_rats rfl _ _ rfl rfl (own_empty _ _ _) rfl (by rw [World.size_alloc]; omega) (HSRC.out _) (by rw [HBL.out]; exact HPOS.out) (by have := HBL.out; have := HN4.out; omega) HL28.out.size_le ?_; intro v9 w9 hout9 hg9)
  have hL89 : Later w8 w9 := ((Later.refl w8).alloc _).grown hg9 fun k hk => by have hk2 : some w8.heap.size = some k := hk; injection hk2 with hk2; omega
  obtain ⟨g11, cap9, cs9, rfl, hgl11, hlc9, hcm9, hr9⟩ := hout9.row (by rw [HBL.out]; exact HPOS.out)
  obtain ⟨bb, off, y1s, Y1, yn1, yc1, y1s', Y2, yn2, yc2, e0, y1, y2, y3, y4, -⟩ := hout9.rats.now.at_ HY.out
  injection e0 with e0; injection e0 with e0 e0'
  subst e0 e0'
  rw [Nat.zero_add] at y1 y2 y3 y4
  rw [HBL.out] at hout9 ⊢
  have HC9 := hide hout9; have HR9 := hide hr9
  have hcs9 : ∀ k u, w9.cell? ⟨g11, k, none⟩ = some u → cs9[k]? = some u := fun k u hk => by
    rw [cell_of_row w9 g11 k cs9.toArray 27 (0, 0) hr9] at hk; simpa using hk
  have hL9d : Later w8 w9.drew := hL89.drew
  have HL9D := hide hL9d
  obtain ⟨b1, off1, sy, B1, r1, d1, sy', B2, r2, d2, rfl, x1, x2, x3, x4, ex⟩ := (HRB.out w2 (Later.refl _)).at_ HY.out
  have hr8d := HR8.out.later (HB4.out.trans HL48.out)
  have HS11 : Hid (∀ w', Later w8 w' → w'.cell? ⟨b1, off1 + i * 4, none⟩ = some (.bool sy) ∧ w'.cell? ⟨b1, off1 + i * 4 + 1, none⟩ = some (.slice B1 r1 d1) ∧ w'.cell? ⟨b1, off1 + i * 4 + 2, none⟩ = some (.bool sy') ∧ w'.cell? ⟨b1, off1 + i * 4 + 3, none⟩ = some (.slice B2 r2 d2) ∧ w'.cell? ⟨g8, 0, none⟩ = some (.bool s3) ∧ w'.cell? ⟨g8, 1, none⟩ = some (.slice P3 q3 e3) ∧ w'.cell? ⟨g8, 2, none⟩ = some (.bool false) ∧ w'.cell? ⟨g8, 3, none⟩ = some (.slice P3' q3' e3')) := hide fun w' hb => ⟨Later.cell (HL28.out.trans hb) x1, Later.cell (HL28.out.trans hb) x2, Later.cell (HL28.out.trans hb) x3, Later.cell (HL28.out.trans hb) x4, (hr8d.later hb).cell rfl, (hr8d.later hb).cell rfl, (hr8d.later hb).cell rfl, (hr8d.later hb).cell rfl⟩
  have HY11 : Hid (RawR w9.drew (.agg #[.bool sy, .slice B1 r1 d1, .bool sy', .slice B2 r2 d2]) y 1) := hide (RawR.later ex (HL28.out.trans hL9d))
  have HQ11 : Hid (RawR w9.drew (.agg #[.bool s3, .slice P3 q3 e3, .bool false, .slice P3' q3' e3']) q 1) := hide (OwnR.raw (OwnR.later HOQ.out (HB4.out.trans (HL48.out.trans hL9d))) HQS.out)
  have hgi3 : (i : Int) < (nb : Int) := by have := HLEN.out; omega
  clear hout9 hg9 hr9 hL9d hL89 x1 x2 x3 x4 ex hr8d HSRC
  refine wp_region_N (fun w' => w'.cell? ⟨b1, off1 + i * 4, none⟩ = some (.bool sy) ∧ w'.cell? ⟨b1, off1 + i * 4 + 1, none⟩ = some (.slice B1 r1 d1) ∧ w'.cell? ⟨b1, off1 + i * 4 + 2, none⟩ = some (.bool sy') ∧ w'.cell? ⟨b1, off1 + i * 4 + 3, none⟩ = some (.slice B2 r2 d2) ∧ w'.cell? ⟨g8, 0, none⟩ = some (.bool s3) ∧ w'.cell? ⟨g8, 1, none⟩ = some (.slice P3 q3 e3) ∧ w'.cell? ⟨g8, 2, none⟩ = some (.bool false) ∧ w'.cell? ⟨g8, 3, none⟩ = some (.slice P3' q3' e3')) [] hmx (HS11.out _ HL9D.out) (fun hHeld => ?_)
  refine wpAnyN_take (i := 0) (oi := _) (v := ?_) rfl (by kernel_rfl) (by kernel_rfl) (by kernel_rfl) (by kernel_rfl) (fun _ _ _ h => h) (Or.inl ⟨by rfl, ?_⟩) (by assumption) ?_
  rotate_left
  · intro w hSw; (try dsimp only at hSw); go_simp
    first | done | with_reducible rfl
  try simp only [Act.put, List.setIfInBounds_toArray, List.set_cons_zero, List.set_cons_succ]
  refine wpAnyN_take (i := 1) (oi := _) (v := ?_) rfl (by kernel_rfl) (by kernel_rfl) (by kernel_rfl) (by kernel_rfl) (fun _ _ _ h => h) (Or.inl ⟨by rfl, ?_⟩) (by assumption) ?_
  rotate_left
  · intro w hSw; (try dsimp only at hSw); go_simp
    first | done | with_reducible rfl
  try simp only [Act.put, List.setIfInBounds_toArray, List.set_cons_zero, List.set_cons_succ]
  refine wpAnyN_take (i := 2) (oi := _) (v := ?_) rfl (by kernel_rfl) (by kernel_rfl) (by kernel_rfl) (by kernel_rfl) (fun _ _ _ h => h) (Or.inl ⟨by rfl, ?_⟩) (by assumption) ?_
  rotate_left
  · intro w hSw; (try dsimp only at hSw); go_simp
    first | done | with_reducible rfl
  try simp only [Act.put, List.setIfInBounds_toArray, List.set_cons_zero, List.set_cons_succ]
  refine wpAnyN_take (i := 3) (oi := _) (v := ?_) rfl (by kernel_rfl) (by kernel_rfl) (by kernel_rfl) (by kernel_rfl) (fun _ _ _ h => h) (Or.inl ⟨by rfl, ?_⟩) (by assumption) ?_
  rotate_left
  · intro w hSw; (try dsimp only at hSw); go_simp
    first | done | with_reducible rfl
  try simp only [Act.put, List.setIfInBounds_toArray, List.set_cons_zero, List.set_cons_succ]
  refine wpAnyN_take (i := 4) (oi := _) (v := ?_) rfl (by kernel_rfl) (by kernel_rfl) (by kernel_rfl) (by kernel_rfl) (fun _ _ _ h => h) (Or.inl ⟨by rfl, ?_⟩) (by assumption) ?_
  rotate_left
  · intro w hSw; (try dsimp only at hSw); go_simp
    first | done | with_reducible rfl
  try simp only [Act.put, List.setIfInBounds_toArray, List.set_cons_zero, List.set_cons_succ]
  refine wpAnyN_take (i := 5) (oi := _) (v := ?_) rfl (by kernel_rfl) (by kernel_rfl) (by kernel_rfl) (by kernel_rfl) (fun _ _ _ h => h) (Or.inl ⟨by rfl, ?_⟩) (by assumption) ?_
  rotate_left
  · intro w hSw; (try dsimp only at hSw); go_simp
    first | done | with_reducible rfl
  try simp only [Act.put, List.setIfInBounds_toArray, List.set_cons_zero, List.set_cons_succ]
  refine wpAnyN_take (i := 6) (oi := _) (v := ?_) rfl (by kernel_rfl) (by kernel_rfl) (by kernel_rfl) (by kernel_rfl) (fun _ _ _ h => h) (Or.inl ⟨by rfl, ?_⟩) (by assumption) ?_
  rotate_left
  · intro w hSw; (try dsimp only at hSw); go_simp
    first | done | with_reducible rfl
  try simp only [Act.put, List.setIfInBounds_toArray, List.set_cons_zero, List.set_cons_succ]
  refine wpAnyN_ready (rs := [7]) (by kernel_rfl) (by simp) ?_
  refine AllReadyN.held rfl (by rfl) (fun K hK => ?_) AllReadyN.nil
  go_simp
  (with_reducible refine (qmul_calls _ _ _ y q 1 1 HY11.out HQ11.out (by omega)).mono ?_)
  rintro e w10 ⟨v10, rfl, o10, b10⟩
  obtain ⟨s10, P10, q10, e10, P10', q10', e10', rfl, o10⟩ := o10.open_; have O10 := hide o10; clear o10
  have HB10 := hide b10
  have hr10 := (HR9.out.later (Later.refl w9).drew).later b10
  have z1 := hr10.cell (i := i * 4) (hcs9 _ _ y1)
  have z2 := fun x => (hr10.set_ (i * 4) x).cell (i := i * 4 + 1) (by rw [List.getElem?_set_ne (by omega)]; exact hcs9 _ _ y2)
  have z3 := fun x x' => ((hr10.set_ (i * 4) x).set_ (i * 4 + 1) x').cell (i := i * 4 + 2) (by rw [List.getElem?_set_ne (by omega), List.getElem?_set_ne (by omega)]; exact hcs9 _ _ y3)
  have z4 := fun x x' x'' => (((hr10.set_ (i * 4) x).set_ (i * 4 + 1) x').set_ (i * 4 + 2) x'').cell (i := i * 4 + 3) (by rw [List.getElem?_set_ne (by omega), List.getElem?_set_ne (by omega), List.getElem?_set_ne (by omega)]; exact hcs9 _ _ y4)
  have f1 := hr10.frozen (i * 4)
  have f2 := fun x => (hr10.set_ (i * 4) x).frozen (i * 4 + 1)
  have f3 := fun x x' => ((hr10.set_ (i * 4) x).set_ (i * 4 + 1) x').frozen (i * 4 + 2)
  have f4 := fun x x' x'' => (((hr10.set_ (i * 4) x).set_ (i * 4 + 1) x').set_ (i * 4 + 2) x'').frozen (i * 4 + 3)
  clear b10 hr10
  refine hK.out _ _ ?_ (fun hHeld => ?_)
  · exact HS11.out _ (HL9D.out.trans HB10.out)
  clear hK K
  try simp only [Act.put, List.setIfInBounds_toArray, List.set_cons_zero, List.set_cons_succ]
  refine wpAnyN_take (i := 8) (oi := _) (v := ?_) rfl (by kernel_rfl) (by kernel_rfl) (by kernel_rfl) (by kernel_rfl) (fun _ _ _ h => h) (Or.inl ⟨by rfl, ?_⟩) (by assumption) ?_
  rotate_left
  · intro w hSw; (try dsimp only at hSw); go_simp
    first | done | with_reducible rfl
  try simp only [Act.put, List.setIfInBounds_toArray, List.set_cons_zero, List.set_cons_succ]
  refine wpAnyN_ready (rs := [9]) (by kernel_rfl) (by simp) ?_
  refine AllReadyN.held rfl (by rfl) (fun K hK => ?_) AllReadyN.nil
  go_simp
  refine hK.out _ _ ?_ (fun hHeld => ?_)
  · exact HS11.out _ ((((((HL9D.out.trans HB10.out).setCell hgl11 _).setCell hgl11 _).setCell hgl11 _).setCell hgl11 _))
  clear hK K
  try simp only [Act.put, List.setIfInBounds_toArray, List.set_cons_zero, List.set_cons_succ]
  refine wpAnyN_done (by kernel_rfl) ?_ _
  obtain ⟨w12, hw12⟩ : ∃ w12, w12 = ((((w10.setCell ⟨g11, i * 4, none⟩ (.bool s10)).setCell ⟨g11, i * 4 + 1, none⟩ (.slice P10 q10 e10)).setCell ⟨g11, i * 4 + 2, none⟩ (.bool false)).setCell ⟨g11, i * 4 + 3, none⟩ (.slice P10' q10' e10')) := ⟨_, rfl⟩
  have hsy : Sized (y * q) 10 := (Sized.mul (HY11.out.sized) HQS.out).mono (by omega)
  have hg9 := HR9.out.lt
  have hc12 : Rats (ERaw 10) w12 (.slice (some ⟨g11, 0, none⟩) nt cap9) (b.set i (y * q)) := by
    rw [hw12]
    refine OutRats.put (((HC9.out.later ((Later.refl w9).drew.trans HB10.out)).map (fun W v x _ h => RawR.mono h (by omega)))) (by rw [HBL.out]; exact HIN.out) rfl ?_
    refine ((On.ownR O10.out).mono (P' := fun k => k ≠ g11) (fun k hk _ => ?_)).map fun W hW => OwnR.raw (B := 0) hW hsy
    have hk2 : w9.heap.size ≤ k := hk
    omega
  have hL812 : Later w8 w12 := by rw [hw12]; exact ((((HL9D.out.trans HB10.out).setCell hgl11 _).setCell hgl11 _).setCell hgl11 _).setCell hgl11 _
  rw [← hw12]
  have HC12 := hide hc12; have HL812 := hide hL812; have HL212 := hide (HL28.out.trans hL812)
  have HU12 := hide (HU8.out.later ERaw.later hL812)
  clear hw12 hc12 hL812 hHeld z1 z2 z3 z4 f1 f2 f3 f4 hsy y1 y2 y3 y4 hcs9
  have HG : Hid (grow 10 nt ≤ 100000) := hide (Nat.le_trans (grow_mono hn4) (by decide))
  have HT10 : Hid (∀ W, Later w2 W → Tab (ERaw 10) W (.slice (some ⟨bt, ot, none⟩) nt ca) t) := hide fun W hW => (HTW.out W hW).map fun row _ v x _ h => RawR.mono h (by omega)
  have HB10r : Hid (∀ W, Later w2 W → Rats (ERaw 10) W (.slice (some ⟨b1, off1, none⟩) nb cb) b) := hide fun W hW => (HRB.out W hW).map fun v x _ h => RawR.mono h (by omega)
  go_wp2_with fail
  refine (lawof_calls _ 1 (by omega) (by omega) 1 div_1).mono ?_
  rintro e w13 ⟨v13, rfl, o13, b13⟩
  obtain ⟨s13, P13, q13, e13, P13', q13', e13', rfl, o13⟩ := o13.open_; have O13 := hide o13; clear o13
  have HB13 := hide b13
  clear b13
  go_wp2_with fail
  refine (qaddtimes_calls w13 _ _ _ b b 1 1 1 1 (HRB.out _ (HL212.out.trans HB13.out)) (HRB.out _ (HL212.out.trans HB13.out)) (OwnR.raw O13.out sized_1) rfl (by have := HBL.out; omega) (by omega)).mono ?_
  rintro e w14 ⟨v14, ok14, rfl, ⟨o14, rfl⟩, b14⟩
  obtain ⟨A14, n14, c14, rfl, -⟩ := o14.now.form
  have hs2 : ∀ x ∈ axpyL b b 1, Sized x 10 := fun x hx => (sized_axpy (HRB.out _ (Later.refl _)).sized (HRB.out _ (Later.refl _)).sized sized_1 x hx).mono (by omega)
  have HTWO : Hid (Rats (ERaw 10) w14 (.slice A14 n14 c14) (axpyL b b 1)) := hide (o14.now.map fun v x hx he => OwnR.raw (B := 0) he (hs2 x hx))
  have HL14 := hide (HB13.out.trans b14)
  have HL2E := hide (HL212.out.trans HL14.out)
  clear o14 b14 hs2
  go_wp2_with fail
  refine (solve_calls2 w14 _ _ t b 10 nt (HT10.out _ HL2E.out) (HB10r.out _ HL2E.out) HTL.out HBL.out HRT.out (by omega) (by have := HG.out; omega)).mono ?_
  rintro e w15 ⟨v15, o15, x, rfl, b15, hx, hxs, hxl, hX⟩
  have HX := hide hx; have HXS := hide hxs; have HXX := hide hX; have HB15 := hide b15; have HXL := hide hxl
  clear hx hxs hX b15 hxl
  go_wp2_with fail
  refine (solve_calls2 w15 _ _ (t.set i (axpyL (List.replicate nt 0) row q)) (b.set i (y * q)) 10 nt (HU12.out.later ERaw.later (HL14.out.trans HB15.out)) (HC12.out.later ERaw.later (HL14.out.trans HB15.out)) (by rw [List.length_set]; exact HTL.out) (by rw [List.length_set]; exact HBL.out) (fun r hr => by
    rcases List.mem_or_eq_of_mem_set hr with h | h
    · exact HRT.out r h
    · rw [h, axpy_len (by rw [List.length_replicate]; exact HRL.out.symm), List.length_replicate]) (by omega) (by have := HG.out; omega)).mono ?_
  rintro e w16 ⟨v16, o16, x2, rfl, b16, hy, -, -, hY⟩
  obtain ⟨e1, e2⟩ := scaled_x HTL.out HBL.out HIN.out HROW.out HRL.out HY.out HQ0.out HXX.out hY
  subst e1
  subst e2
  have HYX := hide hy; have HB16 := hide b16
  clear hy hY b16
  go_wp2_with fail
  refine (solve_calls2 w16 _ _ t (axpyL b b 1) 10 nt (HT10.out _ (HL2E.out.trans (HB15.out.trans HB16.out))) (HTWO.out.later ERaw.later (HB15.out.trans HB16.out)) HTL.out (by rw [axpy_len rfl]; exact HBL.out) HRT.out (by omega) (by have := HG.out; omega)).mono ?_
  rintro e w17 ⟨v17, o17, x3, rfl, b17, hz, hzs, -, hZ⟩
  obtain ⟨e1, e2⟩ := double_x HBL.out HXX.out hZ
  subst e1
  have HZX := hide hz; have HB17 := hide b17; have HZS := hide hzs; have HE2 := hide e2
  clear hz hZ b17 hzs e2
  go_wp2_with fail
  refine (lawof_calls _ 1 (by omega) (by omega) 1 div_1).mono ?_
  rintro e w18 ⟨v18, rfl, o18, b18⟩
  obtain ⟨s18, P18, q18, e18, P18', q18', e18', rfl, o18⟩ := o18.open_; have O18 := hide o18; clear o18
  have HB18 := hide b18
  have HXN := hide HX.out.rats.now
  have h518 := ((HB16.out.trans HB17.out).trans b18)
  have HXR : Hid (Rats (ERaw (grow 10 nt + 1)) w18 v15 x2) := hide ((HXN.out.later EOwn.later h518).map fun v r hr he => OwnR.raw (B := 0) he (HXS.out r hr))
  have H518 := hide h518
  clear b18 h518
  go_wp2_with fail
  refine (qaddtimes_calls w18 _ _ _ x2 x2 1 (grow 10 nt + 1) (grow 10 nt + 1) 1 HXR.out HXR.out (OwnR.raw O18.out sized_1) rfl (by have := HXL.out; omega) (by have := HG.out; omega)).mono ?_
  rintro e w19 ⟨v19, ok19, rfl, ⟨o19, rfl⟩, b19⟩
  have HW := hide o19.now; have HB19 := hide b19
  clear o19 b19
  go_wp2_with fail
  refine (lsame_calls _ _ _ x2 x2 (grow 10 nt + 1) (grow 10 nt + 1) (HXN.out.later EOwn.later (H518.out.trans HB19.out)) (HYX.out.rats.now.later EOwn.later ((HB17.out.trans HB18.out).trans HB19.out)) HXS.out HXS.out (by have := HG.out; omega) (by have := HG.out; omega) (by have := HXL.out; omega) true (by simp)).mono ?_
  rintro e w20 ⟨rfl, b20⟩
  have HB20 := hide b20
  clear b20
  go_wp2_with fail
  refine (lsame_calls _ _ _ x3 (axpyL x2 x2 1) (grow 10 nt + 1) (grow 10 nt + 1) (HZX.out.rats.now.later EOwn.later ((HB18.out.trans HB19.out).trans HB20.out)) (HW.out.later EOwn.later HB20.out) HZS.out (fun r hr => HZS.out r (by rw [HE2.out]; exact hr)) (by have := HG.out; omega) (by have := HG.out; omega) (by rw [HE2.out, axpy_len rfl]; have := HXL.out; omega) true (by simp [HE2.out])).mono ?_
  rintro e w21 ⟨rfl, b21⟩
  go_wp2_with fail
  go_ret
  exact ⟨by simp, (((((HLA.out.trans HL2E.out).trans HB15.out).trans H518.out).trans HB19.out).trans HB20.out).trans b21⟩

end Go.Proofs.Ytkendajmnmchoaa
